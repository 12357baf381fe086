/- Texts. -/
import Derived.Test.YtinphfpdfodkkaaGreatDoorP06
import Derived.Deep.MidRow
import Derived.Deep.RegionLaw
set_option linter.unusedVariables false
set_option linter.unusedSimpArgs false
set_option maxHeartbeats 8000000
set_option maxRecDepth 100000
namespace Go.Proofs.YtinphfpdfodkkaaGreatDoor
section
open Go.RowKit Go.Sort
namespace A
open H G
theorem jv_:(Tryz.prog.info? 210).map (fun i=>(i.zero,i.size,i.bytes))=some (some (.agg #[.bool false,.int .i64 0,.string ⟨#[]⟩,.slice none 0 0,.string ⟨#[]⟩,.int .i64 0,.int .i64 0,.int .i64 0,.int .i64 0,.int .i64 0]),10,112):=by kernel_rfl
structure d4_(w:World)(T:am_)(V:Value):Prop where
 blk:Blk T.tb #[.int .i64 T.bs,.int .i64 T.st,V,T.freeV,.int .i64 T.live,.int .i64 T.root] 92 w
 row:ac_ a5_ T.B 210 10 w V T.slots
 few:T.slots.length<=1000000
 bb:T.B<=T.tb
 free:b4_ T.B w T.freeV T.frees
 attrs:∀r,r∈T.slots->aw_ w r.attrs r.al
theorem al_.v{w:World}{T:am_}(h:al_ w T):d4_ w T (.slice (some ⟨T.g,0,none⟩) T.slots.length T.cap):=⟨h.blk,h.row,h.few,h.bb,h.free,h.attrs⟩
theorem d4_.below{w w':World}{T:am_}{V:Value}(h:d4_ w T V)(b:Below w.heap.size w w'):d4_ w' T V:=
 ⟨h.blk.below b,own_below h.row b,h.few,h.bb,own_below h.free b,fun r hr=>own_below (h.attrs r hr) b⟩
def am_.next(T:am_):Nat:=match T.frees.getLast? with|none=>T.slots.length|some s=>s
def am_.grow(T:am_)(r:em_)(g cap:Nat)(V:Value):am_:=match T.frees.getLast? with
 |none=>{ T with g:=g,cap:=cap,slots:=T.slots++[r],live:=T.live+1 }
 |some s=>{ T with g:=g,cap:=cap,slots:=T.slots.set s r,freeV:=V,frees:=T.frees.dropLast,live:=T.live+1 }
theorem eX_(T:am_){x:G.Node}{av:Value}{g cap:Nat}{V:Value}(hf:T.frees.Nodup/\∀s,s∈T.frees->s<T.slots.length/\(T.sl s).used=false):Added T (T.grow (aL_ x av) g cap V) x T.next:=by
 unfold am_.grow am_.next
 cases h:T.frees.getLast? with
 |none=>
  dsimp only;have hl:(T.slots++[aL_ x av]).length=T.slots.length+1:=by simp
  have e0:T.frees=[]:=List.getLast?_eq_none_iff.1 h;refine⟨rfl,rfl,rfl,rfl,by show T.slots.length<(T.slots++[aL_ x av]).length;omega,by show T.slots.length<=(T.slots++[aL_ x av]).length;omega,fun t h1 h2=>by have h1:t<(T.slots++[aL_ x av]).length:=h1;omega,⟨av,?_⟩,fun t h1 h2=>?_,fun h1=>by omega,?_⟩
  ·show(T.slots++[aL_ x av]).getD T.slots.length aS_=_
   rw[List.getD_eq_getElem?_getD,List.getElem?_append_right (nl_),Nat.sub_self];rfl
  ·show(T.slots++[aL_ x av]).getD t aS_=T.slots.getD t aS_
   rw[List.getD_eq_getElem?_getD,List.getD_eq_getElem?_getD,List.getElem?_append_left h1]
  ·show T.frees.Nodup/\_
   rw[e0];exact⟨List.nodup_nil,fun t ht=>by cases ht⟩
 |some s=>
  dsimp only;have hm:=List.mem_of_getLast? h;obtain⟨h1,h2⟩:=hf.2 s hm;have hl:(T.slots.set s (aL_ x av)).length=T.slots.length:=by simp
  obtain⟨ys,hys⟩:=List.getLast?_eq_some_iff.1 h;have hdl:T.frees.dropLast=ys:=by rw[hys];simp
  have hn:=hf.1;rw[hys,List.nodup_append]at hn;refine⟨rfl,rfl,rfl,rfl,by show s<(T.slots.set s (aL_ x av)).length;omega,by show T.slots.length<=(T.slots.set s (aL_ x av)).length;omega,fun t h1 h2=>by have h1:t<(T.slots.set s (aL_ x av)).length:=h1;omega,⟨av,?_⟩,fun t h3 h4=>?_,fun _=>h2,by rw[hdl];exact hn.1,fun t ht=>?_⟩
  ·show(T.slots.set s (aL_ x av)).getD s aS_=_
   rw[List.getD_eq_getElem?_getD,List.getElem?_set_self h1];rfl
  ·show(T.slots.set s (aL_ x av)).getD t aS_=T.slots.getD t aS_
   rw[List.getD_eq_getElem?_getD,List.getD_eq_getElem?_getD,List.getElem?_set_ne (fun e=>h4 e.symm)]
  ·have ht:t∈T.frees.dropLast:=ht
   rw[hdl]at ht;exact⟨by rw[hys];exact List.mem_append_left _ ht,fun e=>hn.2.2 t ht s (by simp) e⟩
def fJ_(x:G.Node)(av:Value):Value:=.agg #[.int .i64 x.kind,.string ⟨x.name.toArray⟩,av,.string ⟨x.data.toArray⟩,.int .i64 0,.int .i64 0,.int .i64 0,.int .i64 0,.int .i64 0]
def am_.foot(T:am_)(k:Nat):Prop:=k=T.tb\/k=T.g\/T.freeV.ownBlock=some k
def he_(T:am_)(V:Value)(k:Nat):Prop:=k=T.tb\/V.ownBlock=some k\/T.freeV.ownBlock=some k
theorem Blk.tree2{w:World}{tb:Nat}{a b c d e f:Value}{t:TypeId}(h:Blk tb #[a,b,c,d,e,f] t w)(c' e':Value):Blk tb #[a,b,c',d,e',f] t ((w.setCell ⟨tb,2,none⟩ c').setCell ⟨tb,4,none⟩ e'):=by
 have h9:=(h.set 2 c').set 4 e';simp only[List.setIfInBounds_toArray,List.set_cons_zero,List.set_cons_succ]at h9;exact h9
theorem Blk.tree3{w:World}{tb:Nat}{a b c d e f:Value}{t:TypeId}(h:Blk tb #[a,b,c,d,e,f] t w)(d':Value):Blk tb #[a,b,c,d',e,f] t (w.setCell ⟨tb,3,none⟩ d'):=by
 have h9:=h.set 3 d';simp only[List.setIfInBounds_toArray,List.set_cons_zero,List.set_cons_succ]at h9;exact h9
theorem Blk.tree4{w:World}{tb:Nat}{a b c d e f:Value}{t:TypeId}(h:Blk tb #[a,b,c,d,e,f] t w)(e':Value):Blk tb #[a,b,c,d,e',f] t (w.setCell ⟨tb,4,none⟩ e'):=by
 have h9:=h.set 4 e';simp only[List.setIfInBounds_toArray,List.set_cons_zero,List.set_cons_succ]at h9;exact h9
theorem mem_nil{w:World}{T:am_}{V:Value}{r:em_}{g cap:Nat}(hfr:T.frees=[])(hblk:Blk T.tb #[.int .i64 T.bs,.int .i64 T.st,V,T.freeV,.int .i64 T.live,.int .i64 T.root] 92 w)
  (hrow:w.ownsRow T.B 210 10 (.slice (some ⟨g,0,none⟩) (T.slots.length+1) cap) (T.slots.length+1) (T.slots.flatMap a5_++a5_ r)) (hfree:b4_ T.B w T.freeV T.frees) (hat:∀s,s∈T.slots->aw_ w s.attrs s.al) (har:aw_ w r.attrs r.al) (hlen:T.slots.length<1000000) (hbb:T.B<=T.tb) :
  al_ ((w.setCell ⟨T.tb,2,none⟩ (.slice (some ⟨g,0,none⟩) (T.slots.length+1) cap)).setCell ⟨T.tb,4,none⟩ (.int .i64 (T.live+1))) (T.grow r g cap T.freeV):=by
 have e1:T.grow r g cap T.freeV={ T with g:=g,cap:=cap,slots:=T.slots++[r],live:=T.live+1 }:=by unfold am_.grow;rw[hfr];rfl
 have hl:(T.slots++[r]).length=T.slots.length+1:=by simp
 have n1:=ak_ hrow hblk (by decide);have n2:=ak_ hfree hblk (by decide);rw[e1];refine⟨?_,?_,by show(T.slots++[r]).length<=_;omega,hbb,?_,?_⟩
 ·show Blk T.tb #[.int .i64 T.bs,.int .i64 T.st,.slice (some ⟨g,0,none⟩) (T.slots++[r]).length cap,T.freeV,.int .i64 (T.live+1),.int .i64 T.root] _ _
  rw[hl];exact Blk.tree2 hblk _ _
 ·show World.ownsRow _ T.B _ 10 (.slice (some ⟨g,0,none⟩) (T.slots++[r]).length cap) (T.slots++[r]).length ((T.slots++[r]).flatMap a5_)
  rw[hl,List.flatMap_append,show[r].flatMap a5_=a5_ r by simp];exact au_ (au_ hrow n1 _ _) n1 _ _
 ·exact au_ (au_ hfree n2 _ _) n2 _ _
 ·intro s hs
  have hs:s∈T.slots++[r]:=hs;have h1:aw_ w s.attrs s.al:=by
   rcases List.mem_append.1 hs with h|h
   ·exact hat s h
   ·rw[List.mem_singleton.1 h];exact har
  have n3:=ak_ h1 hblk (by decide);exact au_ (au_ h1 n3 _ _) n3 _ _
theorem mem_cons{w:World}{T:am_}{r:em_}{g gf cap fcap s:Nat}(hgl:T.frees.getLast?=some s)(hblk:Blk T.tb #[.int .i64 T.bs,.int .i64 T.st,.slice (some ⟨g,0,none⟩) T.slots.length cap,.slice (some ⟨gf,0,none⟩) (T.frees.length-1) fcap,.int .i64 T.live,.int .i64 T.root] 92 w)
  (hrow:ac_ a5_ T.B 210 10 w (.slice (some ⟨g,0,none⟩) (T.slots.set s r).length cap) (T.slots.set s r)) (hfree:b4_ T.B w (.slice (some ⟨gf,0,none⟩) T.frees.length fcap) T.frees) (hat:∀s,s∈T.slots->aw_ w s.attrs s.al) (har:aw_ w r.attrs r.al) (hlen:T.slots.length<=1000000) (hbb:T.B<=T.tb) :
  al_ (w.setCell ⟨T.tb,4,none⟩ (.int .i64 (T.live+1))) (T.grow r g cap (.slice (some ⟨gf,0,none⟩) (T.frees.length-1) fcap)):=by
 have e1:T.grow r g cap (.slice (some ⟨gf,0,none⟩) (T.frees.length-1) fcap)={ T with g:=g,cap:=cap,slots:=T.slots.set s r,freeV:=.slice (some ⟨gf,0,none⟩) (T.frees.length-1) fcap,frees:=T.frees.dropLast,live:=T.live+1 }:=by unfold am_.grow;rw[hgl]
 have hl:(T.slots.set s r).length=T.slots.length:=by simp
 have n1:=ak_ hrow hblk (by decide);have hf2:=fF_ hfree (k:=T.frees.length-1) (by omega);have n2:=ak_ hf2 hblk (by decide);have e2:(aE_ T.frees).take ((T.frees.length-1)*1)=aE_ T.frees.dropLast:=by unfold aE_;rw[List.dropLast_eq_take,Nat.mul_one,List.map_take]
 have e3:T.frees.dropLast.length=T.frees.length-1:=by simp
 rw[e1];refine⟨?_,?_,by show(T.slots.set s r).length<=_;omega,hbb,?_,?_⟩
 ·show Blk T.tb #[.int .i64 T.bs,.int .i64 T.st,.slice (some ⟨g,0,none⟩) (T.slots.set s r).length cap,_,.int .i64 (T.live+1),.int .i64 T.root] _ _
  rw[hl];exact Blk.tree4 hblk _
 ·exact au_ hrow n1 _ _
 ·show World.ownsRow _ T.B _ 1 _ T.frees.dropLast.length (aE_ T.frees.dropLast)
  rw[e3,<-e2];exact au_ hf2 n2 _ _
 ·intro q hq
  have hq:q∈T.slots.set s r:=hq;have h1:aw_ w q.attrs q.al:=by
   rcases List.mem_or_eq_of_mem_set hq with h|h
   ·exact hat q h
   ·rw[h];exact har
  have n3:=ak_ h1 hblk (by decide);exact au_ h1 n3 _ _
theorem bi_{w:World}{B b:Nat}{e t:TypeId}{size n:Nat}{v:Value}{xs:List Value}{cs:Array Value}(h:w.ownsRow B e size v n xs)(hb:Blk b cs t w)(hne:e≠t)(o:Nat)(u:Value):(w.setCell ⟨b,o,none⟩ u).ownsRow B e size v n xs:=au_ h (ak_ h hb hne) o u
theorem hh_{w:World}{a:Nat}{cs:Array Value}{s:TypeId}(h:Blk a cs s w):Blk a cs s w.drew:=h
theorem mJ_{α:Type}{c:α->List Value}{w:World}{B size:Nat}{e:TypeId}{v:Value}{l:List α}(h:ac_ c B e size w v l):ac_ c B e size w.drew v l:=World.ownsRow.drew h
theorem blk_ne{w:World}{a b:Nat}{cs ds:Array Value}{s t:TypeId}(h:Blk a cs s w)(k:Blk b ds t w)(hne:s≠t):a≠b:=fun e=>by subst e;exact hne (bM_ h k)
theorem Frame.drew{S:Nat->Prop}{u w:World}(h:H.Frame S u w):H.Frame S u w.drew:=⟨h.os,h.tape,h.output,h.size,h.block⟩
theorem Frame.of_grown{w w':World}{row:Option Nat}(hg:w.grownBy w' row):H.Frame (fun k=>row=some k) w w':=⟨hg.os,hg.tape,hg.output,hg.size,fun k hk hn=>hg.block k hk (fun e=>hn e.symm)⟩
theorem jU_(r:em_)(h:∃ao n cap,r.attrs=.slice ao n cap):∀u∈a5_ r,u.oneCell'=true:=by
 obtain⟨ao,n,cap,h⟩:=h;unfold a5_;rw[h];simp[Value.oneCell']
theorem add_(T:am_)(V:Value)(x:G.Node)(av:Value)(w:World)(hT:d4_ w T V)(hf:T.frees.Nodup/\∀s,s∈T.frees->s<T.slots.length/\(T.sl s).used=false)(ha:aw_ w av x.attrs)(hlen:T.slots.length<1000000)(hlive:0<=T.live/\T.live<=1000000)(hfl:T.frees.length<=1000000) :
  Calls Tryz.prog 92 #[.pointer (some ⟨T.tb,0,none⟩),fJ_ x av] w fun e w'=>∃g cap V',e=.returned (.int .i64 (handle T.bs T.st T.next))/\H.Frame (he_ T V) w w'/\al_ w' (T.grow (aL_ x av) g cap V')/\(V.ownBlock=some g\/w.heap.size<=g)/\(T.freeV.ownBlock=V'.ownBlock):=by
 have hB1:=(Below.refl w.heap.size w).alloc (nl_) (.cells #[.int .i64 x.kind,.string ⟨x.name.toArray⟩,av,.string ⟨x.data.toArray⟩,.int .i64 0,.int .i64 0,.int .i64 0,.int .i64 0,.int .i64 0] 126);have hT1:=hT.below hB1;have hX1:Blk w.heap.size #[.int .i64 x.kind,.string ⟨x.name.toArray⟩,av,.string ⟨x.data.toArray⟩,.int .i64 0,.int .i64 0,.int .i64 0,.int .i64 0,.int .i64 0] 126 (w.alloc (.cells #[.int .i64 x.kind,.string ⟨x.name.toArray⟩,av,.string ⟨x.data.toArray⟩,.int .i64 0,.int .i64 0,.int .i64 0,.int .i64 0,.int .i64 0] 126)):=Blk.new w _ _;obtain⟨ao,acap,hva⟩:=aw_.slice ha;subst hva;have ha1:aw_ _ _ _:=own_below ha hB1;unfold fJ_;obtain⟨vo,vcap,hV⟩:=fr_ hT.row;obtain⟨fo,fcap,hFv⟩:=fr_ hT.free;obtain⟨hc,hfz⟩:=ad_ hT1.blk;have hlt:=hT1.blk.lt
 have hltX:=hX1.lt;have c0:=hc 0;have c1:=hc 1;have c2:=hc 2;have c3:=hc 3;have c4:=hc 4;have c5:=hc 5;have f2:=hfz 2 (by show 2<6;omega);have f3:=hfz 3 (by show 3<6;omega);have f4:=hfz 4 (by show 4<6;omega);simp only[List.getElem?_toArray,List.getElem?_cons_zero,List.getElem?_cons_succ]at c0 c1 c2 c3 c4 c5;have HT1:=hi_ hT1;have HX1:=hi_ hX1;have HA1:=hi_ ha1;have HB1:=hi_ hB1;subst hV;have HRow:=hi_ hT.row;have hsz:w.heap.size<(w.alloc (.cells #[.int .i64 x.kind,.string ⟨x.name.toArray⟩,.slice ao x.attrs.length acap,.string ⟨x.data.toArray⟩,.int .i64 0,.int .i64 0,.int .i64 0,.int .i64 0,.int .i64 0] 126)).heap.size:=by simp
 obtain⟨⟨x0,x1,x2,x3,x4,x5,x6,x7,x8⟩,_⟩:=bZ_ hX1;obtain⟨i0,hi0,hz0,hz1,hz2⟩:=info_parts jv_;have hq:-9223372036854775808<=T.live+1/\T.live+1<9223372036854775808:=by omega
 have wl:IntKind.i64.wrap (T.live+1)=T.live+1:=IntWalk.i64_in _ (by omega);clear hq hT1 hX1 ha1 hB1 hT hc hfz
 go_enter Tryz.func92,Tryz.ntmps92
 cases hfr:T.frees with
 |nil=>
  rw[hfr]at hFv;rw[hFv]at c3;have HFr:=hi_ hfr;have hnx:T.next=T.slots.length:=by unfold am_.next;rw[hfr];rfl
  have HNx:=hi_ hnx;have QH:=hi_ (fun W=>lV_ T.bs T.st T.slots.length W (by omega));clear hnx hfr ha hf hFv;go_wp2_with fail
  generalize hw1:w.alloc (.cells #[.int .i64 x.kind,.string ⟨x.name.toArray⟩,.slice ao x.attrs.length acap,.string ⟨x.data.toArray⟩,.int .i64 0,.int .i64 0,.int .i64 0,.int .i64 0,.int .i64 0] 126)=w1 at *;clear hw1
  go_region_law ((refine step_append_lies _ (by rfl) _ _ _ (by rfl) T.B 210 i0 _ 10 112 Tryz.underlying88 hi0 hz0 hz1 hz2 rfl (by omega) (.slice vo T.slots.length vcap) T.slots.length (T.slots.flatMap a5_) (by rfl) ((World.ownsRow.alloc HT1.out.row _).drew) ⟨w1.heap.size,0,none⟩ 1 1 (a5_ (aL_ x (.slice ao x.attrs.length acap))) (by rfl) (by rfl) (World.news_of_block (cs:=(a5_ (aL_ x (.slice ao x.attrs.length acap))).toArray) (t:=210) (fr:=(0,0)) (heap_alloc_new w1 _)) (jU_ _ ⟨_,_,_,rfl⟩) (by omega) (by unfold maxLen;omega) (by omega) (by have:=HT1.out.bb;have:=HT1.out.blk.lt;simp;omega) (w1.heap.size+1) (by simp) ?_;intro gg cap2 w5 hown5 hgrow hat hlt5;have hbk:Blk T.tb #[.int .i64 T.bs,.int .i64 T.st,.slice vo T.slots.length vcap,T.freeV,.int .i64 T.live,.int .i64 T.root] 92 w5:=(hgrow.block T.tb (by have:=HT1.out.blk.lt;simp;omega) (fun h=>ak_ HT1.out.row HT1.out.blk (by decide) h.symm)).trans (HT1.out.blk.alloc _);obtain⟨hc5,hf5⟩:=ad_ hbk;have d0:=hc5 0;have d1:=hc5 1;have d2:=hc5 2;have d4:=hc5 4;have g2:=hf5 2 (by show 2<6;omega);have g4:=hf5 4 (by show 4<6;omega);simp only[List.getElem?_toArray,List.getElem?_cons_zero,List.getElem?_cons_succ]at d0 d1 d2 d4;have hltb:=hbk.lt))
  all_goals
   clear hc5 hf5 c0 c1 c2 c3 c4 c5 f2 f3 f4;have HBk:=hi_ hbk;have HO5:=hi_ hown5;have HG5:=hi_ hgrow;have HAt:=hi_ hat;have hM:al_ ((w5.setCell ⟨T.tb,2,none⟩ (.slice (some ⟨gg,0,none⟩) (T.slots.length+1) cap2)).setCell ⟨T.tb,4,none⟩ (.int .i64 (T.live+1))) (T.grow (aL_ x (.slice ao x.attrs.length acap)) gg cap2 T.freeV):=by
    have hkeep:∀{B:Nat} {e:TypeId} {size n:Nat} {v:Value} {xs:List Value},World.ownsRow w1 B e size v n xs->e≠210->w5.ownsRow B e size v n xs:=fun {B e size n v xs} h1 h2=>
     ah_ (World.ownsRow.drew (h1.alloc _)) (Frame.of_grown hgrow) (fun k hk e=>aU_ h1 HT1.out.row h2 hk e)
    exact mem_nil HFr.out hbk hown5 (hkeep HT1.out.free (by decide)) (fun s hs=>hkeep (HT1.out.attrs s hs) (by decide)) (hkeep HA1.out (by decide)) hlen HT1.out.bb
   have hF5:H.Frame (he_ T (.slice vo T.slots.length vcap)) w ((w5.setCell ⟨T.tb,2,none⟩ (.slice (some ⟨gg,0,none⟩) (T.slots.length+1) cap2)).setCell ⟨T.tb,4,none⟩ (.int .i64 (T.live+1))):=
    Frame.set (S:=he_ T (.slice vo T.slots.length vcap)) (Frame.set (S:=he_ T (.slice vo T.slots.length vcap)) (Frame.grown (S:=he_ T (.slice vo T.slots.length vcap)) (Frame.drew (Frame.alloc (Frame.of HB1.out) _)) hgrow (fun k hk=>Or.inl (Or.inr (Or.inl hk)))) (Or.inl (Or.inl rfl)) _ _) (Or.inl (Or.inl rfl)) _ _
   have HF5:=hi_ hF5;have HM:=hi_ hM;clear hM hF5 hbk hown5 hgrow hat;go_wp2_with fail
   refine(QH.out _).mono ?_;rintro e w6 ⟨rfl,hb6⟩;go_wp2_with fail
   go_ret
   refine⟨gg,cap2,T.freeV,ay_ (congrArg (handle T.bs T.st) HNx.out.symm),HF5.out.below_ hb6,HM.out.below hb6,?_,rfl⟩
   rcases HAt.out with h|h
   ·exact Or.inl h
   ·exact Or.inr (by omega)
 |cons s0 tl=>
  obtain⟨ys,s,hys⟩:∃ys s,T.frees=ys++[s]:=by
   rw[hfr];exact⟨(s0 :: tl).dropLast,(s0 :: tl).getLast (by simp),(List.dropLast_concat_getLast (by simp)).symm⟩
  have hgl:T.frees.getLast?=some s:=by rw[hys];simp
  have hnx:T.next=s:=by unfold am_.next;rw[hgl]
  have HNx:=hi_ hnx;have HGl:=hi_ hgl;obtain⟨hs1,hs2⟩:=hf.2 s (by rw[hys];simp);have hlk:T.frees.length=ys.length+1:=by rw[hys];simp
  obtain⟨gf,fcap',hFv',hgfB,hgfl,hkc⟩:=a1_ HT1.out.free (by omega);rw[hFv']at c3;rw[hlk]at c3 hkc;have hcf:World.cell? (w.alloc (.cells #[.int .i64 x.kind,.string ⟨x.name.toArray⟩,.slice ao x.attrs.length acap,.string ⟨x.data.toArray⟩,.int .i64 0,.int .i64 0,.int .i64 0,.int .i64 0,.int .i64 0] 126)) ⟨gf,ys.length,none⟩=some (.int .i64 s):=by
   have h1:=HT1.out.free;rw[hFv']at h1;have h2:=((ae_ h1).2.2.2 ys.length (by unfold aE_;rw[List.length_map];omega)).1;rw[h2,hys];unfold aE_;rw[List.getElem?_map];simp
  obtain⟨g,vcap',hVv,hgB,hgl2,hgc⟩:=a1_ HT1.out.row (by omega);injection hVv with e1 e2 e3
  subst e1 e3;have HFv:=hi_ hFv';have HHys:=hi_ hys;have HLk:=hi_ hlk;have QH:=hi_ (fun W=>lV_ T.bs T.st s W (by omega));generalize ys.length=k at *;have p1:(0:Int)<(k:Int)+1:=by omega
  have wk:IntKind.i64.wrap ((k:Int)+1-1)=(k:Int):=by rw[show(k:Int)+1-1=(k:Int) by omega];exact IntWalk.i64_in _ (by omega)
  have wk2:wrap64 (k:Int)=(k:Int):=by unfold wrap64;omega
  have p2:(s:Int)<(T.slots.length:Int):=by omega
  have p3:(k:Int)<(k:Int)+1:=by omega
  have p4:(k:Int)<=(fcap':Int):=Int.ofNat_le.2 (Nat.le_of_succ_le hkc);rw[show((k+1:Nat))=k+1 from rfl]at c3;clear hnx hgl hfr ha hf hFv hys hlk hFv';go_wp2_with fail
  have HF2:=hi_ (Frame.set (S:=he_ T (.slice (some ⟨g,0,none⟩) T.slots.length vcap)) (Frame.of HB1.out) (Or.inl (Or.inl rfl)) 3 (.slice (some ⟨gf,0,none⟩) k fcap'));have HBk:=hi_ (Blk.tree3 HT1.out.blk (.slice (some ⟨gf,0,none⟩) k fcap'));have HX2:=hi_ (HX1.out.far (fun e=>blk_ne HX1.out HT1.out.blk (by decide) e) 3 (.slice (some ⟨gf,0,none⟩) k fcap'));have HR2:=hi_ (bi_ HT1.out.row HT1.out.blk (by decide) 3 (.slice (some ⟨gf,0,none⟩) k fcap'));have HFr2:=hi_ (bi_ HT1.out.free HT1.out.blk (by decide) 3 (.slice (some ⟨gf,0,none⟩) k fcap'));have HAt2:=hi_ (fun s hs=>bi_ (HT1.out.attrs s hs) HT1.out.blk (by decide) 3 (.slice (some ⟨gf,0,none⟩) k fcap'));have HA2:=hi_ (bi_ HA1.out HT1.out.blk (by decide) 3 (.slice (some ⟨gf,0,none⟩) k fcap'));clear hcf;generalize World.setCell _ _ _=w2 at *
  obtain⟨hc,hfz⟩:=ad_ HBk.out;have d0:=hc 0;have d1:=hc 1;have d2:=hc 2;have d4:=hc 4;have g4:=hfz 4 (by show 4<6;omega);simp only[List.getElem?_toArray,List.getElem?_cons_zero,List.getElem?_cons_succ]at d0 d1 d2 d4;obtain⟨⟨y0,y1,y2,y3,y4,y5,y6,y7,y8⟩,_⟩:=bZ_ HX2.out;have ht2:=HBk.out.lt;have hrec:=fun(k:Nat) (hk:k<10)=>ac_.cell bq_ HR2.out (i:=s) hs1 (k:=k) hk;obtain⟨z0,b0⟩:=hrec 0 (by omega);obtain⟨z1,b1⟩:=hrec 1 (by omega);obtain⟨z2,b2⟩:=hrec 2 (by omega);obtain⟨z3,b3⟩:=hrec 3 (by omega);obtain⟨z4,b4⟩:=hrec 4 (by omega);obtain⟨z5,b5⟩:=hrec 5 (by omega);obtain⟨z6,b6⟩:=hrec 6 (by omega);obtain⟨z7,b7⟩:=hrec 7 (by omega);obtain⟨z8,b8⟩:=hrec 8 (by omega);obtain⟨z9,b9⟩:=hrec 9 (by omega)
  obtain⟨ro,rn,rcap,hra⟩:∃ro rn rcap,T.slots[s].attrs=.slice ro rn rcap:=by
   obtain⟨ro,rcap,h⟩:=aw_.slice (HAt2.out T.slots[s] (List.getElem_mem hs1));exact⟨ro,_,rcap,h⟩
  simp only[a5_,List.getElem?_cons_zero,List.getElem?_cons_succ,Nat.add_zero,hra]at z0 z1 z2 z3 z4 z5 z6 z7 z8 z9 b0;generalize T.slots[s]=rs at *;clear hrec hc hfz c0 c1 c2 c3 c4 c5 f2 f3 f4 x0 x1 x2 x3 x4 x5 x6 x7 x8 HX1 HA1 HB1 hsz
  go_region
  change Exit.then _ _ _ _ (World.drew (World.setCells w2 g (s*10) (a5_ (aL_ x (.slice ao x.attrs.length acap)))));have hne:T.tb≠g:=fun e=>ak_ HR2.out HBk.out (by decide) (by rw[e];rfl);have hkeep:∀{B:Nat} {e:TypeId} {size n:Nat} {v:Value} {xs:List Value},World.ownsRow w2 B e size v n xs->e≠210->World.ownsRow (World.drew (World.setCells w2 g (s*10) (a5_ (aL_ x (.slice ao x.attrs.length acap))))) B e size v n xs:=fun {B e size n v xs} h1 h2=>
   World.ownsRow.drew (e6_ (fun e=>aU_ h1 HR2.out h2 e rfl) _ _ _ h1)
  have HBk5:=hi_ (hh_ (dJ_ hne (a5_ (aL_ x (.slice ao x.attrs.length acap))) (s*10) w2 HBk.out));have HR5:=hi_ (mJ_ (ac_.put bq_ HR2.out hs1 (aL_ x (.slice ao x.attrs.length acap))));have HFr5:=hi_ (hkeep HFr2.out (by decide));have HAt5:=hi_ (fun q hq=>hkeep (HAt2.out q hq) (by decide));have HA5:=hi_ (hkeep HA2.out (by decide));have HF5:=hi_ (Frame.drew (bD_ (S:=he_ T (.slice (some ⟨g,0,none⟩) T.slots.length vcap)) (g:=g) (a5_ (aL_ x (.slice ao x.attrs.length acap))) (s*10) w2 HF2.out (Or.inl (Or.inr (Or.inl rfl)))));clear hkeep z0 z1 z2 z3 z4 z5 z6 z7 z8 z9 b0 b1 b2 b3 b4 b5 b6 b7 b8 b9 y0 y1 y2 y3 y4 y5 y6 y7 y8 d0 d1 d2 d4 g4 HBk HR2 HFr2 HAt2 HA2 HF2 HX2;generalize World.drew _=w5 at *;have hk1:T.frees.length-1=k:=by rw[HLk.out];rfl
  rw[HFv.out]at HFr5;have HM:=hi_ (mem_cons (r:=aL_ x (.slice ao x.attrs.length acap)) HGl.out (by rw[hk1];exact HBk5.out) HR5.out HFr5.out HAt5.out HA5.out (Nat.le_of_lt hlen) HT1.out.bb);obtain⟨hc,hfz⟩:=ad_ HBk5.out;have d0:=hc 0;have d1:=hc 1;have d4:=hc 4;have g4:=hfz 4 (by show 4<6;omega);simp only[List.getElem?_toArray,List.getElem?_cons_zero,List.getElem?_cons_succ]at d0 d1 d4;have HF6:=hi_ (Frame.set (S:=he_ T (.slice (some ⟨g,0,none⟩) T.slots.length vcap)) HF5.out (Or.inl (Or.inl rfl)) 4 (.int .i64 (T.live+1)));have htb:=HBk5.out.lt;clear hc hfz HF5;go_wp2_with fail
  refine(QH.out _).mono ?_;rintro e w6 ⟨rfl,hb6⟩;go_wp2_with fail
  go_ret
  exact⟨g,vcap,.slice (some ⟨gf,0,none⟩) (T.frees.length-1) fcap',ay_ (congrArg (handle T.bs T.st) HNx.out.symm),HF6.out.below_ hb6,HM.out.below hb6,Or.inl rfl,by rw[HFv.out];rfl⟩
end A
end
end Go.Proofs.YtinphfpdfodkkaaGreatDoor
