/- Texts. -/
import Derived.Test.YtinphfpdfodkkaaGreatDoorP15
import Derived.Test.YtinphfpdfodkkaaGreatDoorP08
set_option linter.unusedVariables false
set_option linter.unusedSimpArgs false
set_option maxHeartbeats 8000000
set_option maxRecDepth 100000
namespace Go.Proofs.YtinphfpdfodkkaaGreatDoor
section
open Go.RowKit Go.Shelf
namespace A
open H G
structure Goes(w:World)(T T':am_):Prop where
 tb:T'.tb=T.tb
 bs:T'.bs=T.bs
 st:T'.st=T.st
 B:T'.B=T.B
 root:T'.root=T.root
 g:T'.g=T.g\/w.heap.size<=T'.g
 free:∀b,T'.freeV.ownBlock=some b->T.freeV.ownBlock=some b\/w.heap.size<=b
theorem Goes.of_like{w:World}{T T':am_}(h:a9_ T T'):Goes w T T':=⟨h.tb,h.bs,h.st,h.B,h.root,Or.inl h.g,fun b hb=>Or.inl (by rw[<-h.freeV];exact hb)⟩
theorem Goes.refl(w:World)(T:am_):Goes w T T:=Goes.of_like (a9_.refl T)
theorem Goes.trans{w w':World}{T T' T2:am_}(h:Goes w T T')(hs:w.heap.size<=w'.heap.size)(k:Goes w' T' T2):Goes w T T2:=by
 refine⟨k.tb.trans h.tb,k.bs.trans h.bs,k.st.trans h.st,k.B.trans h.B,k.root.trans h.root,?_,fun b hb=>?_⟩
 ·rcases k.g with e|e
  ·rw[e];exact h.g
  ·exact Or.inr (by omega)
 ·rcases k.free b hb with e|e
  ·exact h.free b e
  ·exact Or.inr (by omega)
theorem Goes.foot{w:World}{T T':am_}(h:Goes w T T')(k:Nat)(hk:T'.foot k):T.foot k\/w.heap.size<=k:=by
 rcases hk with e|e|e
 ·exact Or.inl (Or.inl (e.trans h.tb))
 ·rcases h.g with e2|e2
  ·exact Or.inl (Or.inr (Or.inl (e.trans e2)))
  ·exact Or.inr (by omega)
 ·exact(h.free k e).imp (fun h=>Or.inr (Or.inr h)) id
structure Gone(T T':am_)(l:List Nat):Prop where
 len:T'.slots.length=T.slots.length
 sl:∀s,s∉l->T'.sl s=T.sl s
 used:∀s,s∈l->s<T.slots.length->(T'.sl s).used=false
 frees:T'.frees=T.frees++l
 live:T'.live=T.live-(l.length:Nat)
 g:T'.g=T.g
theorem Gone.refl(T:am_):Gone T T []:=⟨rfl,fun _ _=>rfl,(fun s hs=>by cases hs),by simp,by simp,rfl⟩
theorem Gone.step{T T':am_}{l:List Nat}(h:Gone T T' l){s:Nat}(hs:s<T.slots.length)(V:Value):Gone T (T'.freed s V) (l++[s]):=by
 have e:∀t,(T'.freed s V).sl t=if t=s then aS_ else T'.sl t:=fun t=>by
  unfold am_.sl am_.freed;dsimp only;rw[List.getD_eq_getElem?_getD,List.getD_eq_getElem?_getD]
  by_cases ht:t=s
  ·subst ht
   rw[List.getElem?_set_self (by rw[h.len];exact hs),if_pos rfl];rfl
  ·rw[List.getElem?_set_ne (fun e=>ht e.symm),if_neg ht]
 refine⟨?_,fun t ht=>?_,fun t ht htl=>?_,?_,?_,h.g⟩
 ·show(T'.slots.set s aS_).length=_
  rw[List.length_set,h.len]
 ·rw[List.mem_append,List.mem_singleton]at ht
  rw[e,if_neg (fun h1=>ht (Or.inr h1)),h.sl t (fun h1=>ht (Or.inl h1))]
 ·rw[e]
  by_cases h1:t=s
  ·rw[if_pos h1];rfl
  ·rw[if_neg h1]
   exact h.used t ((List.mem_append.1 ht).resolve_right (fun h2=>h1 (List.mem_singleton.1 h2))) htl
 ·show T'.frees++[s]=_
  rw[h.frees,List.append_assoc]
 ·show T'.live-1=_
  rw[h.live,List.length_append];simp only[List.length_singleton];omega
theorem Gone.dropped{T T':am_}{l:List Nat}{pos:Nat->Nat}{w:World}(h:Gone T T' (l.map pos))(k:Goes w T T')(hl:∀i,i∈l->pos i<T.slots.length):i1_ T T' l pos:=by
 refine⟨k.bs,k.st,h.len,by rw[h.live,List.length_map],k.root,h.frees,fun s _ hs=>h.sl s (fun hm=>?_),fun i hi=>h.used _ (List.mem_map_of_mem hi) (hl i hi)⟩;obtain⟨i,hi,e⟩:=List.mem_map.1 hm;exact hs i hi e
theorem jK_(T:am_)(m:aa_)(pos:Nat->Nat)(w:World)(hT:aj_ w T m pos)(h:Nat)(hh:has m h=true)
  (b1 b2:Nat) (hb1:b1<w.heap.size) (hb2:b2<w.heap.size) (c1:w.cell? ⟨b1,0,none⟩=some (.pointer (some ⟨T.tb,0,none⟩))) (c2:w.cell? ⟨b2,0,none⟩=some (.int .i64 (hd T pos h))) (hlen:(walk m h).length<=1000000) :
  Calls Tryz.prog 132 #[.func (.func 98) #[] #[.pointer (some ⟨b1,0,none⟩),.pointer (some ⟨b2,0,none⟩)]] w fun e w'=>∃v,e=.returned v/\eO_ T pos w.heap.size w' v (walk m h)/\Below w.heap.size w w':=by
 have Q:=hi_ ((callsIn_wide (n:=9)).1 (appendSeq_in T m pos w hT h hh 9 b1 b2 hb1 hb2 c1 c2 hlen));clear hT c1 c2
 go_enter Tryz.func132,Tryz.ntmps132
 go_wp2_with fail
 refine Q.out.mono ?_;rintro e w2 ⟨v,rfl,hown,hb⟩;obtain⟨ao,cap,hv,_⟩:=hown.form;subst hv;go_wp2_with fail
 go_ret
 exact⟨_,rfl,hown,hb⟩
theorem Walk_(tb:Nat)(z:Int)(w:World) :
  Calls Tryz.prog 49 #[.pointer (some ⟨tb,0,none⟩),.int .i64 z] w fun e w'=>e=.returned (.func (.func 98) #[] #[.pointer (some ⟨w.heap.size,0,none⟩),.pointer (some ⟨w.heap.size+1,0,none⟩)])/\w'=(w.alloc (.cells #[.pointer (some ⟨tb,0,none⟩)] 37)).alloc (.cells #[.int .i64 z] 3):=by
 go_enter Tryz.func49,Tryz.ntmps49
 go_wp2_with fail
 go_ret
 exact⟨rfl,rfl⟩
theorem kh_{w:World}{T:am_}{s gf fcap n:Nat}(h:T.freeV.ownBlock=some gf\/w.heap.size<=gf):Goes w T (T.freed s (.slice (some ⟨gf,0,none⟩) n fcap)):=
 ⟨rfl,rfl,rfl,rfl,rfl,Or.inl rfl,fun b hb=>by
  have e:gf=b:=by
   have h1:(Value.slice (some ⟨gf,0,none⟩) n fcap).ownBlock=some b:=hb;simpa[Value.ownBlock]using h1
  rw[<-e];exact h⟩
theorem ez_{T:am_}{m:aa_}{pos:Nat->Nat}(F:Fits T m pos)(hlm:m.length<=1000000):0<=T.live/\T.live<=1000000:=by
 have h1:=F.live;have h2:=List.length_filter_le (has m) (List.range m.length);rw[List.length_range]at h2;omega
theorem eE_{T:am_}{m:aa_}{pos:Nat->Nat}(F:Fits T m pos)(hfew:T.slots.length<=1000000):T.frees.length<=1000000:=by
 have h1:T.frees.length<=(List.range T.slots.length).length:=List.Nodup.length_le_of_subset F.frees.1 (fun x hx=>List.mem_range.2 (F.frees.2 x hx).1);rw[List.length_range]at h1;omega
theorem gS_{m:aa_}(W:WF m){h:Nat}(hh:has m h=true):(walk m h).length<=m.length:=by
 have h1:(walk m h).length<=(List.range m.length).length:=List.Nodup.length_le_of_subset (WF.walk_nodup W h) (fun x hx=>List.mem_range.2 (aR_ (WF.walk_has W h hh x hx)))
 rwa [List.length_range]at h1
end A
end
end Go.Proofs.YtinphfpdfodkkaaGreatDoor
