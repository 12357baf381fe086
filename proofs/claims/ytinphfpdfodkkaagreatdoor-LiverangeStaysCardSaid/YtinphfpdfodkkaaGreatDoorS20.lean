/- Texts. -/
import Derived.Test.YtinphfpdfodkkaaGreatDoorS13
set_option linter.unusedVariables false
set_option linter.unusedSimpArgs false
set_option maxHeartbeats 8000000
set_option maxRecDepth 100000
namespace Go.Proofs.YtinphfpdfodkkaaGreatDoor
section
open Go.RowKit Go.Sort
namespace A
open H G R
def lY_(T:am_)(pos:Nat->Nat)(r:Rec):Value:=.agg (av_ T pos r).toArray
structure iO_(w:World)(g o:Nat)(z k:Int):Prop where
 c0:w.cell? ⟨g,o,none⟩=some (.int .i64 z)
 c1:w.cell? ⟨g,o+1,none⟩=some (.int .i64 k)
 f0:w.frozen? ⟨g,o,none⟩=false
 f1:w.frozen? ⟨g,o+1,none⟩=false
 lt:g<w.heap.size
theorem np_{w:World}{T:am_}{m:aa_}{pos:Nat->Nat}{g o:Nat}{z k:Int}{cs:Array Value}(hT:ag_ w T m pos)(h:iO_ w g o z k):AdjM w (w.alloc (.cells cs 73)) T m pos g o w.heap.size z k cs:=by
 have b:=(Below.refl w.heap.size w).alloc (nl_) (.cells cs 73);exact⟨b,hT.below b,Blk.new w _ _,(b.cell (p:=⟨g,o,none⟩) h.lt).trans h.c0,(b.cell (p:=⟨g,o+1,none⟩) h.lt).trans h.c1,(b.frozen (p:=⟨g,o,none⟩) h.lt).trans h.f0,(b.frozen (p:=⟨g,o+1,none⟩) h.lt).trans h.f1,Nat.lt_of_lt_of_le h.lt b.size⟩
theorem go_in{m:aa_}{r:Rec}{q:Nat×Nat}{h:Nat}(k2:r.kind=2)(e:r.node=some h)(hc:contains m h q.1=true):bi_ m r q=(r.target,r.index):=if_pos ⟨k2,h,e,hc⟩
theorem mO_{m:aa_}{r:Rec}{q:Nat×Nat}(hc:¬(r.kind=2/\∃h,r.node=some h/\contains m h q.1=true)) :
  bi_ m r q=if q.1≠r.target\/q.2<=r.index then q else if r.kind=1 then(q.1,q.2+1)else if r.kind=2 then(q.1,q.2-1)else if r.kind=4 then(if q.2<=r.index+r.count then(q.1,r.index) else(q.1,q.2-r.count+r.size))else q:=if_neg hc
theorem adjust_(T:am_)(m:aa_)(pos:Nat->Nat)(r:Rec)(q:Nat×Nat)(g o:Nat)(w:World)(hT:ag_ w T m pos)(hq:has m q.1=true)(ht:has m r.target=true)(hn:r.kind=2->∃h,r.node=some h/\has m h=true)
  (hqb:q.2<=1000000000) (hb:r.index<=1000000/\r.count<=1000000/\r.size<=1000000) (hP:iO_ w g o (hd T pos q.1) (q.2:Nat)) :
  Calls Tryz.prog 77 #[.pointer (some ⟨T.tb,0,none⟩),.pointer (some ⟨g,o,none⟩),lY_ T pos r] w fun e w'=>e=.returned (.tuple #[])/\eA_ w w' g o (hd T pos q.1) (q.2:Nat) (hd T pos (bi_ m r q).1) ((bi_ m r q).2:Nat):=by
 obtain⟨b1,b2,b3⟩:=hb;have hA:=fun cs=>np_ (cs:=cs) hT hP;have hF:=hT.fits;unfold lY_ av_
 by_cases k2:r.kind=2
 ·obtain⟨h,e,hh⟩:=hn k2
  have hC:∀W,ag_ W T m pos->Calls Tryz.prog 40 #[.pointer (some ⟨T.tb,0,none⟩),.int .i64 (hdO T pos r.node),.int .i64 (hd T pos q.1)] W fun e w'=>e=.returned (.bool (contains m h q.1))/\Below W.heap.size W w':=fun W hW=>by rw[e];exact cp_ T m pos h q.1 W hW hh hq
  cases hc:contains m h q.1 with
  |true=>
   rw[hc]at hC;rw[go_in k2 e hc,k2];exact adj_in T m pos g o _ _ 0 _ _ _ _ _ _ _ _ _ _ hC w (hA _)
  |false=>
   rw[hc]at hC;rw[mO_ (by rintro⟨_,h2,e2,c2⟩;rw[e]at e2;injection e2 with e2;rw[<-e2,hc]at c2;cases c2),k2]
   by_cases h1:q.1=r.target
   ·by_cases h2:q.2<=r.index
    ·rw[if_pos (Or.inr h2),<-h1]
     exact oH_ T m pos g o _ _ 0 0 _ _ _ _ _ _ _ _ _ hC (by omega) w (hA _)
    rw[if_neg (fun h3=>h3.elim (fun h4=>h4 h1) h2),if_neg (by decide),if_pos rfl,<-h1];have:=oI_ T m pos g o (hd T pos q.1) (q.2:Nat) 0 0 (hdO T pos r.node) (hdO T pos r.prev) (hdO T pos r.next) (r.index:Nat) (r.count:Nat) (r.size:Nat) (.string ⟨r.name.toArray⟩) (.string ⟨r.old.toArray⟩) (.bool r.had) hC (by omega) (IntWalk.i64_in _ (by omega)) w (hA _);rw[show((q.2:Nat):Int)-1=((q.2-1:Nat):Int) by omega]at this;exact this
   rw[if_pos (Or.inl h1)];exact oG_ T m pos g o _ _ 0 _ _ _ _ _ _ _ _ _ _ hC (fun h3=>h1 (dJ_ hF hq ht h3)) w (hA _)
 rw[mO_ (fun h3=>k2 h3.1)];have k2':¬((r.kind:Nat):Int)=2:=by omega
 by_cases h1:q.1=r.target
 ·by_cases h2:q.2<=r.index
  ·rw[if_pos (Or.inr h2),<-h1]
   exact oD_ T m pos g o _ _ _ 0 _ _ _ _ _ _ _ _ _ k2' (by omega) w (hA _)
  rw[if_neg (fun h3=>h3.elim (fun h4=>h4 h1) h2),<-h1]
  by_cases k1:r.kind=1
  ·rw[if_pos k1,k1]
   exact oJ_ T m pos g o (hd T pos q.1) (q.2:Nat) 0 0 (hdO T pos r.node) (hdO T pos r.prev) (hdO T pos r.next) (r.index:Nat) (r.count:Nat) (r.size:Nat) (.string ⟨r.name.toArray⟩) (.string ⟨r.old.toArray⟩) (.bool r.had) (by omega) (IntWalk.i64_in _ (by omega)) w (hA _)
  rw[if_neg k1,if_neg k2]
  by_cases k4:r.kind=4
  ·rw[if_pos k4,k4]
   by_cases h4:q.2<=r.index+r.count
   ·rw[if_pos h4]
    exact oF_ T m pos g o (hd T pos q.1) (q.2:Nat) 0 0 (hdO T pos r.node) (hdO T pos r.prev) (hdO T pos r.next) (r.index:Nat) (r.count:Nat) (r.size:Nat) (.string ⟨r.name.toArray⟩) (.string ⟨r.old.toArray⟩) (.bool r.had) (by omega) (by omega) (IntWalk.i64_in _ (by omega)) w (hA _)
   rw[if_neg h4];have:=nq_ T m pos g o (hd T pos q.1) (q.2:Nat) 0 0 (hdO T pos r.node) (hdO T pos r.prev) (hdO T pos r.next) (r.index:Nat) (r.count:Nat) (r.size:Nat) (.string ⟨r.name.toArray⟩) (.string ⟨r.old.toArray⟩) (.bool r.had) (by omega) (by omega) (IntWalk.i64_in _ (by omega)) (IntWalk.i64_in _ (by omega)) (IntWalk.i64_in _ (by omega)) w (hA _);rw[show((q.2:Nat):Int)+(((r.size:Nat):Int)-((r.count:Nat):Int))=((q.2-r.count+r.size:Nat):Int) by omega]at this;exact this
  rw[if_neg k4];exact oE_ T m pos g o _ _ _ 0 _ _ _ _ _ _ _ _ _ (by omega) k2' (by omega) (by omega) w (hA _)
 rw[if_pos (Or.inl h1)];have h3:¬hd T pos q.1=hd T pos r.target:=fun h3=>h1 (dJ_ hF hq ht h3);exact oC_ T m pos g o _ _ _ _ _ _ _ _ _ _ _ _ _ k2' h3 w (hA _)
end A
end
end Go.Proofs.YtinphfpdfodkkaaGreatDoor
