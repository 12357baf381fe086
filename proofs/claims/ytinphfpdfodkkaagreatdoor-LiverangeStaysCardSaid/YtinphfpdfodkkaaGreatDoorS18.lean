/- Texts. -/
import Derived.Test.YtinphfpdfodkkaaGreatDoorS16
set_option linter.unusedVariables false
set_option linter.unusedSimpArgs false
set_option maxHeartbeats 8000000
set_option maxRecDepth 100000
namespace Go.Proofs.YtinphfpdfodkkaaGreatDoor
section
open Go.RowKit Go.Sort
namespace A
open H G R
def am_.freed(T:am_)(s:Nat)(V:Value):am_:={ T with slots:=T.slots.set s aT_,freeV:=V,frees:=T.frees++[s],live:=T.live-1 }
theorem mb_{w:World}{T:am_}{s gf fcap:Nat}(hblk:Blk T.tb #[.int .i64 T.bs,.int .i64 T.st,.slice (some ⟨T.g,0,none⟩) T.slots.length T.cap,T.freeV,.int .i64 T.live,.int .i64 T.root] 92 w)
  (hrow:ab_ a8_ T.B 210 10 w (.slice (some ⟨T.g,0,none⟩) (T.slots.set s aT_).length T.cap) (T.slots.set s aT_)) (hfree:w.ownsRow T.B 3 1 (.slice (some ⟨gf,0,none⟩) (T.frees.length+1) fcap) (T.frees.length+1) (aF_ T.frees++[.int .i64 (s:Nat)])) (hat:∀s,s∈T.slots->aw_ w s.attrs s.al) (hlen:T.slots.length<=1000000) (hbb:T.B<=T.tb) :
  al_ ((w.setCell ⟨T.tb,3,none⟩ (.slice (some ⟨gf,0,none⟩) (T.frees.length+1) fcap)).setCell ⟨T.tb,4,none⟩ (.int .i64 (T.live-1))) (T.freed s (.slice (some ⟨gf,0,none⟩) (T.frees.length+1) fcap)):=by
 have hl:(T.slots.set s aT_).length=T.slots.length:=by simp
 have n1:=ai_ hrow hblk (by decide);have n2:=ai_ hfree hblk (by decide);have e2:aF_ T.frees++[.int .i64 s]=aF_ (T.frees++[s]):=by unfold aF_;simp
 have e3:(T.frees++[s]).length=T.frees.length+1:=by simp
 unfold am_.freed;refine⟨?_,?_,by show(T.slots.set s aT_).length<=_;omega,hbb,?_,?_⟩
 ·show Blk T.tb #[.int .i64 T.bs,.int .i64 T.st,.slice (some ⟨T.g,0,none⟩) (T.slots.set s aT_).length T.cap,_,.int .i64 (T.live-1),.int .i64 T.root] _ _
  rw[hl];exact Blk.tree4 (Blk.tree3 hblk _) _
 ·exact au_ (au_ hrow n1 _ _) n1 _ _
 ·show World.ownsRow _ T.B _ 1 _ (T.frees++[s]).length (aF_ (T.frees++[s]))
  rw[e3,<-e2];exact au_ (au_ hfree n2 _ _) n2 _ _
 intro q hq;have hq:q∈T.slots.set s aT_:=hq;have h1:aw_ w q.attrs q.al:=by
  rcases List.mem_or_eq_of_mem_set hq with h|h
  ·exact hat q h
  rw[h];exact⟨rfl,Or.inl ⟨rfl,rfl⟩⟩
 have n3:=ai_ h1 hblk (by decide);exact au_ (au_ h1 n3 _ _) n3 _ _
theorem nk_(T:am_)(s:Nat)(w:World)(hT:al_ w T)(hs:s<T.slots.length)(hu:(T.sl s).used=true)(hlive:-10000000<=T.live/\T.live<=10000000)(hfl:T.frees.length<=10000000) :
  Calls Tryz.prog 133 #[.pointer (some ⟨T.tb,0,none⟩),.int .i64 (handle T.bs T.st s)] w fun e w'=>∃gf fcap,e=.returned (.bool true)/\H.Frame T.foot w w'/\al_ w' (T.freed s (.slice (some ⟨gf,0,none⟩) (T.frees.length+1) fcap))/\(T.freeV.ownBlock=some gf\/w.heap.size<=gf):=by
 have hfew:=hT.few;have hb1:=e9_ T.bs T.st s;have hb2:handle T.bs T.st s<=1000001000:=by
  have h2:=c0_ T.bs;have h3:=c0_ T.st;have h4:nrm T.st*(s:Int)<=1000*1000000:=Int.mul_le_mul h3.2 (by omega) (by omega) (by omega);unfold handle;omega
 have Q1:=hi_ (find T (handle T.bs T.st s) w hT (by omega) (by omega));have hptr:T.ptr 0 (handle T.bs T.st s)=some ⟨T.g,s*10,none⟩:=by
  unfold am_.ptr am_.at_;rw[dC_ (by omega)];dsimp only;rw[dif_pos hs,if_pos (by rw[<-hm_ hs];exact hu)];rfl
 rw[hptr]at Q1;have hsI:gy_ T.bs T.st (handle T.bs T.st s)=(s:Int):=by unfold gy_;rw[dC_ (by omega)]
 have QI:=hi_ (fun W=>index T.bs T.st (handle T.bs T.st s) W (by omega) (by omega));rw[hsI]at QI;have HT:=hi_ hT;obtain⟨fo,fcap,hFv⟩:=fJ_ hT.free;obtain⟨i0,hi0,hz0,hz1,hz2⟩:=info_parts dh_;obtain⟨i1,hi1,hy0,hy1,hy2⟩:=info_parts j3_;have wl:IntKind.i64.wrap (T.live-1)=T.live-1:=IntWalk.i64_in _ (by omega);generalize handle T.bs T.st s=hh at *;have HFv:=hi_ hFv;clear hT hptr hsI hFv hu
 go_enter Tryz.func133,Tryz.ntmps133
 go_wp2_with fail
 refine Q1.o.mono ?_;rintro e w2 ⟨rfl,hb⟩;have HT2:=hi_ (HT.o.below hb);have HB2:=hi_ hb;have hlg:=(ad_ HT2.o.row).1;have hrec:=fun(k:Nat) (hk:k<10)=>ab_.cell bv_ HT2.o.row (i:=s) hs (k:=k) hk;obtain⟨z0,b0⟩:=hrec 0 (by omega);obtain⟨z1,b1⟩:=hrec 1 (by omega);obtain⟨z2,b2⟩:=hrec 2 (by omega);obtain⟨z3,b3⟩:=hrec 3 (by omega);obtain⟨z4,b4⟩:=hrec 4 (by omega);obtain⟨z5,b5⟩:=hrec 5 (by omega);obtain⟨z6,b6⟩:=hrec 6 (by omega);obtain⟨z7,b7⟩:=hrec 7 (by omega);obtain⟨z8,b8⟩:=hrec 8 (by omega);obtain⟨z9,b9⟩:=hrec 9 (by omega);obtain⟨ro,rn,rcap,hra⟩:∃ro rn rcap,T.slots[s].attrs=.slice ro rn rcap:=by
  obtain⟨ro,rcap,h⟩:=aw_.slice (HT2.o.attrs T.slots[s] (List.getElem_mem hs));exact⟨ro,_,rcap,h⟩
 simp only[a8_,List.getElem?_cons_zero,List.getElem?_cons_succ,Nat.add_zero,hra]at z0 z1 z2 z3 z4 z5 z6 z7 z8 z9 b0;generalize T.slots[s]=rs at *;clear hrec hb Q1;go_wp2_with fail
 change Code.wp _ _ _ _ (World.setCells w2 T.g (s*10) (a8_ aT_));have hne:T.tb≠T.g:=fun e=>ai_ HT2.o.row HT2.o.blk (by decide) (by rw[e];rfl);have hkeep:∀{B:Nat} {e:TypeId} {size n:Nat} {v:Value} {xs:List Value},World.ownsRow w2 B e size v n xs->e≠210->World.ownsRow (World.setCells w2 T.g (s*10) (a8_ aT_)) B e size v n xs:=fun {B e size n v xs} h1 h2=>
  fl_ (fun e=>aQ_ h1 HT2.o.row h2 e rfl) _ _ _ h1
 have HBk5:=hi_ (dR_ hne (a8_ aT_) (s*10) w2 HT2.o.blk);have HR5:=hi_ (ab_.put bv_ HT2.o.row hs aT_);have HFr5:=hi_ (hkeep HT2.o.free (by decide));have HAt5:=hi_ (fun q hq=>hkeep (HT2.o.attrs q hq) (by decide));have HF5:=hi_ (bJ_ (S:=T.foot) (g:=T.g) (a8_ aT_) (s*10) w2 (Frame.of HB2.o) (Or.inl (Or.inr (Or.inl rfl))));clear hkeep z0 z1 z2 z3 z4 z5 z6 z7 z8 z9 b0 b1 b2 b3 b4 b5 b6 b7 b8 b9 hlg;generalize World.setCells w2 T.g (s*10) (a8_ aT_)=w5 at *;obtain⟨hc,hfz⟩:=ae_ HBk5.o;have d0:w5.cell? ⟨T.tb,0,none⟩=some (.int .i64 T.bs):=hc 0;have d1:w5.cell? ⟨T.tb,1,none⟩=some (.int .i64 T.st):=hc 1;have d3:w5.cell? ⟨T.tb,3,none⟩=some T.freeV:=hc 3;have htb:=HBk5.o.lt;rw[HFv.o]at d3 HFr5
 have HSS:Hd (∀w',Below w5.heap.size w5 w'->w'.cell? ⟨T.tb,0,none⟩=some (.int .i64 T.bs)/\w'.cell? ⟨T.tb,1,none⟩=some (.int .i64 T.st)):=hi_ (fun w' hB=>⟨(hB.cell (p:=⟨T.tb,0,none⟩) htb).trans d0,(hB.cell (p:=⟨T.tb,1,none⟩) htb).trans d1⟩);have HS3:Hd (∀w',Below w5.heap.size w5 w'->w'.cell? ⟨T.tb,3,none⟩=some (.slice fo T.frees.length fcap)):=hi_ (fun w' hB=>(hB.cell (p:=⟨T.tb,3,none⟩) htb).trans d3);have HBd:=hi_ (Below.refl w5.heap.size w5).drew;have HTB:=hi_ htb;have hbb:=HT2.o.bb;have hlt5:=htb;have HNo:=hi_ (ai_ HFr5.o HBk5.o (by decide));clear hc hfz
 go_cut [] (fun wx=>∃gf cap2 wq,wx=wq.setCell ⟨T.tb,3,none⟩ (.slice (some ⟨gf,0,none⟩) (T.frees.length+1) cap2)/\Hd (wq.ownsRow T.B 3 1 (.slice (some ⟨gf,0,none⟩) (T.frees.length+1) cap2) (T.frees.length+1) (aF_ T.frees++[.int .i64 s]))/\Hd (∃wp,Below w5.heap.size w5 wp/\wp.grownBy wq T.freeV.ownBlock/\(T.freeV.ownBlock=some gf\/w5.heap.size<=gf)))
 case first=>
  go_region_law
   (first
    | (go_simp
       go_at_call 158
       refine(QI.o _).mono ?_;rintro e w6 ⟨rfl,b6⟩;have HB6:=bt_ HBd b6;have hs6:=HB6.o.size;have htb6:T.tb<w6.heap.size:=by omega
       have e36:=HS3.o _ HB6.o;clear b6 hs6
       go_simp)
    | (with_reducible refine bo_ (w6.alloc (.cells #[.int .i64 s] 3)) ?_
       refine step_append_lies _ (by rfl) _ _ 39 (by rfl) T.B 3 i0 _ 1 8 Tryz.underlying39 hi0 hz0 hz1 hz2 rfl (by omega) (.slice fo T.frees.length fcap) T.frees.length (aF_ T.frees) (by rfl) (World.ownsRow.alloc (own_below HFr5.o HB6.o) _) ⟨w6.heap.size,0,none⟩ 1 1 [.int .i64 s] (by rfl) (by rfl) (World.news_of_block (cs:=#[.int .i64 s]) (heap_alloc_new w6 (.cells #[.int .i64 s] 3))) (bl_ [s]) (by omega) (by unfold maxLen;omega) (by omega) (by have:=HB6.o.size;simp<;>omega) (w6.heap.size+1) (by simp) ?_;intro gg cap2 w7 hown7 hgrow hat hlt7;have hbk:Blk T.tb #[.int .i64 T.bs,.int .i64 T.st,.slice (some ⟨T.g,0,none⟩) T.slots.length T.cap,T.freeV,.int .i64 T.live,.int .i64 T.root] 92 w7:=(hgrow.block T.tb (by have:=HB6.o.size;simp<;>omega) (fun h=>HNo.o h.symm)).trans ((HBk5.o.below HB6.o).alloc _)
       obtain⟨hc7,hf7⟩:=ae_ hbk;have g3:=hf7 3 (by show 3<6;omega);have hltb:=hbk.lt;have e3:w7.cell? ⟨T.tb,3,none⟩=some T.freeV:=hc7 3;rw[HFv.o]at e3;clear hc7 hf7))
  all_goals (
   have hs6:=HB6.o.size;go_wp2_with fail
   go_meet
   exact⟨gg,cap2,w7,rfl,hi_ hown7,hi_ ⟨_,HB6.o.alloc HB6.o.size _,by rw[HFv.o];exact hgrow,by rw[HFv.o];exact hat.imp id (fun h=>by omega)⟩⟩)
 obtain⟨gf,cap2,wq,rfl,HO7,hx⟩:=hcut;obtain⟨wp,hbp,hgr,hgf⟩:=hx.out;have HFg:Hd (H.Frame (fun k=>T.freeV.ownBlock=some k) wp wq):=hi_ (Frame.of_grown hgr);have HBk6:=hi_ (HBk5.o.below hbp);have HR6:=hi_ (show ab_ a8_ T.B 210 10 wp (.slice (some ⟨T.g,0,none⟩) (T.slots.set s aT_).length T.cap) (T.slots.set s aT_)from own_below HR5.o hbp);have HFr6:=hi_ (own_below HFr5.o hbp);have HAt6:=hi_ (fun q hq=>own_below (HAt5.o q hq) hbp);have HNe:Hd (∀{B:Nat} {e:TypeId} {size n:Nat} {v:Value} {xs:List Value},World.ownsRow wp B e size v n xs->e≠3->∀g,v.ownBlock=some g->¬T.freeV.ownBlock=some g):=hi_ (fun h1 h2 g hg h3=>aQ_ h1 HFr6.o h2 hg (by rw[<-HFv.o];exact h3))
 have HBk7:=hi_ (HBk6.o.frame HFg.o (fun h=>ai_ HFr6.o HBk6.o (by decide) (by rw[<-HFv.o];exact h)));have HR7:=hi_ (ak_ HR6.o HFg.o (HNe.o HR6.o (by decide)));have HAt7:=hi_ (fun q hq=>ak_ (HAt6.o q hq) HFg.o (HNe.o (HAt6.o q hq) (by decide)));have HM:=hi_ (mb_ (s:=s) HBk7.o HR7.o HO7.o HAt7.o hfew hbb);have HF7:=hi_ (Frame.set (S:=T.foot) (Frame.set (S:=T.foot) (Frame.grown (S:=T.foot) (HF5.o.below_ hbp) hgr (fun k hk=>Or.inl (Or.inr (Or.inr hk)))) (Or.inl (Or.inl rfl)) 3 (.slice (some ⟨gf,0,none⟩) (T.frees.length+1) cap2)) (Or.inl (Or.inl rfl)) 4 (.int .i64 (T.live-1)));have HGf:Hd (T.freeV.ownBlock=some gf\/w.heap.size<=gf):=hi_ (hgf.imp id (fun h=>by have:=HF5.o.size;omega));obtain⟨hc,hfz⟩:=ae_ (Blk.tree3 HBk7.o (.slice (some ⟨gf,0,none⟩) (T.frees.length+1) cap2));have d4:=hc 4
 have g4:=hfz 4 (by show 4<6;omega);have hlt8:=(Blk.tree3 HBk7.o (.slice (some ⟨gf,0,none⟩) (T.frees.length+1) cap2)).lt;simp only[List.getElem?_toArray,List.getElem?_cons_zero,List.getElem?_cons_succ]at d4;clear hc hfz hx hbp hgr hgf d0 d1 d3;generalize hwv:World.setCell wq ⟨T.tb,3,none⟩ (.slice (some ⟨gf,0,none⟩) (T.frees.length+1) cap2)=wv at *;go_wp2_with fail
 go_ret
 exact⟨gf,cap2,rfl,HF7.o,HM.o,HGf.o⟩
end A
end
end Go.Proofs.YtinphfpdfodkkaaGreatDoor
