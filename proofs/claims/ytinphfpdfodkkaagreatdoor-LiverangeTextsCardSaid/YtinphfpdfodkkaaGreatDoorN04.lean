/- Texts of the proof. -/
import Derived.Test.YtinphfpdfodkkaaGreatDoorN03
import Derived.Test.YtinphfpdfodkkaaGreatDoorM22
import Derived.Test.YtinphfpdfodkkaaGreatDoorM20
import Derived.Deep.Slices
import Derived.OpenShut
set_option linter.unusedVariables false
set_option linter.unusedSimpArgs false
set_option maxHeartbeats 8000000
set_option maxRecDepth 100000
namespace Go.Proofs.YtinphfpdfodkkaaGreatDoor
section
open Go.RowKit Go.Shelf Go.Sort
namespace A
open H G T R
theorem wp_normal{P:Program}{c:Code}{Q:Exit->Act->World->Prop}{a:Act}{w:World}(h:c.wp P (fun x a' w'=>x=.normal/\Q .normal a' w') a w):c.wp P Q a w:=
 Code.wp_mono (fun e a' w' h=>by obtain⟨rfl,h⟩:=h;exact h) h
theorem text_(T:TMem)(m:Model)(pos:Nat->Nat)(S:SMem)(id:Int)(i:Nat)(a b:Nat×Nat)(w:World)(hT:TreeIs w T m pos)(hSe:SetMem w S)(hS:Small m)(hTab:Tabs w)(hfi:findR S.rs id=some i)(hi:i<S.rs.length)
  (ha:has m a.1=true) (hbh:has m b.1=true) (oa:okPt m a.1 (a.2:Nat)=true) (ob:okPt m b.1 (b.2:Nat)=true) (ka:a.2<=1000000) (kb:b.2<=1000000) (hab:top m b.1=top m a.1)
  (r1:S.rs[i].sn=hd T pos a.1) (r2:S.rs[i].si=(a.2:Nat)) (r3:S.rs[i].en=hd T pos b.1) (r4:S.rs[i].ei=(b.2:Nat)) (hlen:(progText m a b).length<=1000000000) :
  Calls Tryz.prog 22 #[.pointer (some ⟨S.sb,0,none⟩),.pointer (some ⟨T.tb,0,none⟩),.int .i64 id] w fun e w'=>e=.returned (.tuple #[.string ⟨(progText m a b).toArray⟩,.int .i64 0])/\Below w.heap.size w w':=by
 obtain⟨ao,cap,hrv⟩:=RecRow.slice hSe.rows;obtain⟨g,cap',e,_,hgl,_⟩:=own_some hSe.rows (by omega);rw[hrv]at e;injection e with e1 e2 e3
 subst e1 e3;have hptr:=ptr_some hrv hfi;have hb1:=(Below.refl w.heap.size w).alloc (Nat.le_refl _) (.cells #[.pointer (some ⟨T.tb,0,none⟩)] 37);have QF:=hi_ (find_ S id _ (hSe.below hb1));rw[hptr]at QF;have hb2:=hb1.alloc hb1.size (.cells #[.pointer (some ⟨g,i*5,none⟩)] 111);have hro:=hSe.rows;rw[hrv]at hro;have k1:=(RecRow.cell rgcells_len hro hi (k:=1) (by omega)).1;have k2:=(RecRow.cell rgcells_len hro hi (k:=2) (by omega)).1;have k3:=(RecRow.cell rgcells_len hro hi (k:=3) (by omega)).1;have k4:=(RecRow.cell rgcells_len hro hi (k:=4) (by omega)).1;have hX4:=Blk.new w #[.pointer (some ⟨T.tb,0,none⟩)] 37;have hX8:=Blk.new (w.alloc (.cells #[.pointer (some ⟨T.tb,0,none⟩)] 37)) #[.pointer (some ⟨g,i*5,none⟩)] 111
 have hX4':=hX4.alloc (.cells #[.pointer (some ⟨g,i*5,none⟩)] 111);rw[World.size_alloc]at hX8;have HM:Hid (TxMem ((w.alloc (.cells #[.pointer (some ⟨T.tb,0,none⟩)] 37)).alloc (.cells #[.pointer (some ⟨g,i*5,none⟩)] 111)) T (hd T pos a.1) (a.2:Nat) (hd T pos b.1) (b.2:Nat) w.heap.size (w.heap.size+1) g (i*5)):=hi_
  ⟨(cells_of hX4').1 0,(cells_of hX8).1 0,(hb2.cell (p:=⟨g,i*5+1,none⟩) hgl).trans (k1.trans (by show some (Value.int .i64 S.rs[i].sn)=_;rw[r1])),(hb2.cell (p:=⟨g,i*5+2,none⟩) hgl).trans (k2.trans (by show some (Value.int .i64 S.rs[i].si)=_;rw[r2])),
   (hb2.cell (p:=⟨g,i*5+3,none⟩) hgl).trans (k3.trans (by show some (Value.int .i64 S.rs[i].en)=_;rw[r3])),(hb2.cell (p:=⟨g,i*5+4,none⟩) hgl).trans (k4.trans (by show some (Value.int .i64 S.rs[i].ei)=_;rw[r4])),by simp;omega⟩
 have HB2:=hi_ hb2;have HT:=hi_ (hT.below hb2);have HTab:=hi_ (hTab.below hb2);clear hptr hb1 hb2 hro k1 k2 k3 k4 hX4 hX8 hX4' hrv r1 r2 r3 r4 hT hTab hSe;refine(callsIn_wide (n:=9)).1 ?_;refine callsIn_of_wp_marks Tryz.func22 rfl trivial ?_ rfl;refine wpIn_wide.2 ?_;simp only[Tryz.ntmps22,List.size_toArray,List.length_cons,List.length_nil,Nat.reduceAdd,Nat.reduceSub,Array.replicate_succ,Array.replicate_zero,List.push_toArray,List.append_toArray,List.nil_append,List.cons_append];go_wp2_with fail
 refine QF.out.mono ?_;rintro e w1 ⟨rfl,hw1⟩;subst hw1;clear QF;have hsz2:((w.alloc (.cells #[.pointer (some ⟨T.tb,0,none⟩)] 37)).alloc (.cells #[.pointer (some ⟨g,i*5,none⟩)] 111)).heap.size=w.heap.size+1+1:=by simp
 go_wp2_with fail
 generalize hW0:(w.alloc (.cells #[.pointer (some ⟨T.tb,0,none⟩)] 37)).alloc (.cells #[.pointer (some ⟨g,i*5,none⟩)] 111)=W0 at *;clear hW0;rw[<-hsz2];have HSz:=hi_ hsz2;clear hsz2;have HB3:=hi_ ((Below.refl W0.heap.size W0).alloc (Nat.le_refl _) (.cells #[.pointer none,.slice none 0 0] 120));have HBl:Hid (BldIs W0.heap.size [] (W0.alloc (.cells #[.pointer none,.slice none 0 0] 120))):=hi_ (Or.inl ⟨Nat.le_refl _,.slice none 0 0,World.alloc_heap_new _ _,World.ownsRowF_nil _ _ _ _,by simp[Value.ownBlock]⟩);generalize W0.alloc (.cells #[.pointer none,.slice none 0 0] 120)=w3 at *;have HBd:=hi_ (HB3.out.trans ((Below.refl w3.heap.size w3).drew.mono HB3.out.size));have HBl2:Hid (BldIs W0.heap.size [] w3.drew):=hi_ (HBl.out.below (Below.refl w3.heap.size w3).drew)
 refine wp_normal ?_;refine wp_region_flow (fun W=>TxMem W T (hd T pos a.1) (a.2:Nat) (hd T pos b.1) (b.2:Nat) w.heap.size (w.heap.size+1) g (i*5)) 8 [(0,false),(1,false),(2,false),(3,false),(4,false),(5,false),(6,false),(7,true)] (by kernel_rfl) (by kernel_rfl) (HM.out.below HBd.out) ?_;change wpFlow _ _ _ _ _ _ _ (World.drew w3);generalize World.drew w3=wd at *;iterate 7 (
  refine flow_get _ ?_ rfl (fun _ _ _ h=>(by cases h.1)) (by rfl) ?_ ?_
  rotate_left
  focus (
   intro W' hS';obtain⟨s4,s8,s1,s2,s3,s5,_⟩:=hS';go_simp
   first|done|with_reducible rfl)
  simp only[Act.put,List.setIfInBounds_toArray,List.set_cons_zero,List.set_cons_succ])
 have HMd:=hi_ (HM.out.below HBd.out);refine flow_do _ rfl (fun K hK=>?_);go_simp
 refine(top_ T m pos a.1 wd (HT.out.below HBd.out) ha).mono ?_;rintro e w4 ⟨rfl,hb4⟩;refine hK _ _ (HMd.out.below hb4) ?_;clear hK K;have HB4:=bt_ HBd hb4;have HBl4:=hi_ (HBl2.out.below hb4);obtain⟨s4,s8,s1,s2,s3,s5,_⟩:=HMd.out.below hb4;clear hb4;try simp only[Act.put,List.setIfInBounds_toArray,List.set_cons_zero,List.set_cons_succ]
 show wpList _ _ _ _ _ _;simp only[List.drop_succ_cons,List.drop_zero];go_wp2_with fail
 rename_i K hK
 refine(Walk_ T.tb (hd T pos (top m a.1)) w4).mono ?_;rintro e w5 ⟨rfl,hw5⟩;refine hK _ _ ?_;clear hK;clear K;refine⟨rfl,?_⟩;have HB5:Hid (Below w4.heap.size w4 w5):=hi_ (by rw[hw5];exact((Below.refl w4.heap.size w4).alloc (Nat.le_refl _) _).alloc (by simp) _);have hs5:w5.heap.size=w4.heap.size+1+1:=by rw[hw5];simp
 have q3:w5.cell? ⟨w4.heap.size,0,none⟩=some (.pointer (some ⟨T.tb,0,none⟩)):=by rw[hw5];simp[go_sem]
 have q4:w5.cell? ⟨w4.heap.size+1,0,none⟩=some (.int .i64 (hd T pos (top m a.1))):=by rw[hw5];simp[go_sem]
 clear hw5;go_wp2_with fail
 refine(wpIn_wide (n:=9)).1 ?_;refine tx_range (n:=9) (w:=w5) (W0:=W0) (T:=T) (m:=m) (pos:=pos) (a:=a) (b:=b) (b4:=w.heap.size) (b8:=w.heap.size+1) (g:=g) (o:=i*5) (b1:=w4.heap.size) (b2:=w4.heap.size+1) (hx:=rfl) (hT:=HT.out) (hS:=hS) (hTab:=HTab.out) (ha:=ha) (hbh:=hbh) (oa:=oa) (ob:=ob) (ka:=ka) (kb:=kb) (hab:=hab) (hM:=HM.out) (hlen:=hlen) (hbld:=HBl4.out.below HB5.out) (hw:=HB4.out.trans (HB5.out.mono HB4.out.size)) (hb1:=by omega) (hb2:=by omega) (c1:=q3) (c2:=q4) (hQ:=?_) _ _ _ _ _ _ _ _ _ _ _ _ _ _ _ _ _ _ _ _ _ _ _ _ _ _ _ _ _ _ _ _ _ _ _ _ _ _ _ _ _ _ _ _ _ _ _ _ _ _ _ _ _ _ _ _ _ _ _ _ _ _ _ _ _ _ _ _ _ _ _ _ _ _ _ _ _ _ _ _ _ _ _ _ _ _;intro W hbW hoW hdW hsW;have HOW:=hi_ hoW;have HDW:=hi_ hdW
 have QS:=hi_ (Tryz.Builder_String_any_k W0.heap.size W0.heap.size (progText m a b) W hbW (Nat.le_of_lt hbW.lt));clear hoW hdW;dsimp only;go_wp2_with fail
 refine QS.out.mono ?_;rintro e W6 ⟨rfl,_,hb6,ho6⟩;have HB6:=hi_ (HOW.out.trans hb6);have HD6:Hid (W6.heap[w5.heap.size]?=some (.deferred (some []))):=hi_ (ho6 _ _ HDW.out (fun e=>by injection e with e;omega) (fun _ _ e=>by cases e));clear hb6 ho6;go_wp2_with fail
 have hd6:W6.heap[w4.heap.size+1+1]?=some (.deferred (some [])):=by rw[<-hs5];exact HD6.out
 have fr6:H.Frame (fun k=>k=w4.heap.size+1+1) W6 (W6.putObj (w4.heap.size+1+1) (.deferred none)):=H.Frame.grown (S:=fun k=>k=w4.heap.size+1+1) (H.Frame.refl _ W6) (grownBy_putObj_a _ _ _) (fun k e=>by cases e;exact Or.inl rfl);have hb7:RowKit.Below w.heap.size w W6:=HB2.out.trans (HB6.out.mono HB2.out.size);have h2:=HB2.out.size;have h4:=HB4.out.size;have hb8:RowKit.Below w.heap.size W6 (W6.putObj (w4.heap.size+1+1) (.deferred none)):=⟨fr6.os,fr6.tape,fr6.output,fr6.size,fun i hi=>fr6.block i (Nat.lt_of_lt_of_le hi hb7.size) (fun e=>by omega)⟩;refine⟨by simp,.inl ⟨_,_,rfl,run_takeDeferred hd6,?_⟩⟩;exact⟨.tuple #[.string ⟨(progText m a b).toArray⟩,.int .i64 0],by simp[results,Tryz.results22,go_sem],rfl,hb7.trans hb8⟩
end A
end
section
open Go.RowKit Go.Sort
namespace A
open H G R
def SMem.one(sb:Nat)(ao:Option Addr)(cap:Nat)(r:Rg):SMem:=⟨sb,.slice ao 1 cap,[r],.slice none 0 0,[],1,sb⟩
theorem find_one(r:Rg)(h:r.id=1):findR [r] 1=some 0:=findR_of (by simp) h (fun j hj=>by omega)
theorem create_one(T:TMem)(m:Model)(pos:Nat->Nat)(sb:Nat)(z k:Int)(w:World)(hT:TreeIs w T m pos)(hS:SetMem w (SMem.zero sb))(hm:Small m)(hp:PtIs T m pos z k 0) :
  Calls Tryz.prog 17 #[.pointer (some ⟨sb,0,none⟩),.pointer (some ⟨T.tb,0,none⟩),pointV z k] w fun e w'=>∃ao cap,e=.returned (.tuple #[.int .i64 1,.int .i64 0])/\H.Frame (SMem.zero sb).foot w w'/\SetMem w' (SMem.one sb ao cap ⟨1,z,k,z,k⟩)/\∀r b,(SMem.one sb ao cap r).foot b->sb<=b:=by
 refine(create_ok T m pos (SMem.zero sb) z k w hT hS hm hp (by show 0<10000;omega) (by show(0:Int)<10000;omega)).mono ?_;rintro e w' ⟨v,rfl,hf,hs,hv⟩;obtain⟨ao,cap,hv2⟩:=RecRow.slice hs.rows;have hv2:v=.slice ao 1 cap:=hv2;subst hv2;refine⟨ao,cap,rfl,hf,hs,fun r b hb=>?_⟩;have hlt:=hS.blk.lt
 rcases hb with e|e|e
 ·exact Nat.le_of_eq e.symm
 ·rcases hv b e with e|e
  ·cases e
  ·have hlt:sb<w.heap.size:=hlt
   omega
 ·cases e
theorem setEnd_one(T:TMem)(m:Model)(pos:Nat->Nat)(sb:Nat)(ao:Option Addr)(cap:Nat)(r:Rg)(a b:Nat×Nat)(w:World)(hT:TreeIs w T m pos)(hS:SetMem w (SMem.one sb ao cap r))(hm:Small m)(hr:r.id=1)
  (ha:has m a.1=true) (ka:a.2<=G.sizeOf m a.1) (kA:a.2<=1000000) (hb:has m b.1=true) (kb:b.2<=G.sizeOf m b.1) (kB:b.2<=1000000) (hbz:r.sn=hd T pos b.1) (hbk:r.si=(b.2:Nat)) :
  Calls Tryz.prog 19 #[.pointer (some ⟨sb,0,none⟩),.pointer (some ⟨T.tb,0,none⟩),.int .i64 1,pointV (hd T pos a.1) (a.2:Nat)] w fun e w'=>e=.returned (.int .i64 0)/\H.Frame (SMem.one sb ao cap r).foot w w' ∧
   SetMem w' (SMem.one sb ao cap (movedEnd m a b (hd T pos a.1) (a.2:Nat) r)):=
 setEnd_ok T m pos (SMem.one sb ao cap r) 1 0 a b w hT hS hm (find_one r hr) (by show 0<1;omega) ha ka kA hb kb kB hbz hbk
end A
end
section
open Go.RowKit Go.Sort
namespace A
open H G R
theorem lcmp_three{m:Model}(W:WF m){a b:Nat×Nat}(ht:top m a.1=top m b.1):lcmp m a b=-1\/lcmp m a b=0\/lcmp m a b=1:=lcmp_cases W ht
theorem hd_or{T:TMem}{m:Model}{pos:Nat->Nat}(F:Fits T m pos){a b i j:Nat}(ha:has m a=true)(hb:has m b=true)(h:(b,j)≠(a,i)):hd T pos a≠hd T pos b\/(i:Int)≠(j:Int):=by
 by_cases e:hd T pos a=hd T pos b
 ·right
  have e2:=hd_inj F ha hb e;intro e3;exact h (by rw[e2,show j=i by omega])
 ·exact Or.inl e
section
variable {T:TMem} {m:Model} {pos:Nat->Nat} {a b i j:Nat}
theorem end_near(F:Fits T m pos)(ha:has m a=true)(hb:has m b=true)(ka:i<=G.sizeOf m a)(kb:j<=G.sizeOf m b)(ht:top m b=top m a) :
  (lcmp m (b,j) (a,i)=-1/\movedEnd m (b,j) (a,i) (hd T pos b) (j:Nat) ⟨1,hd T pos a,(i:Nat),hd T pos a,(i:Nat)⟩=⟨1,hd T pos b,(j:Nat),hd T pos b,(j:Nat)⟩) ∨
  (lcmp m (b,j) (a,i)=0/\b=a/\j=i/\movedEnd m (b,j) (a,i) (hd T pos b) (j:Nat) ⟨1,hd T pos a,(i:Nat),hd T pos a,(i:Nat)⟩=⟨1,hd T pos a,(i:Nat),hd T pos a,(i:Nat)⟩) ∨
  (lcmp m (b,j) (a,i)=1/\(hd T pos a≠hd T pos b\/(i:Int)≠(j:Int))/\movedEnd m (b,j) (a,i) (hd T pos b) (j:Nat) ⟨1,hd T pos a,(i:Nat),hd T pos a,(i:Nat)⟩=⟨1,hd T pos a,(i:Nat),hd T pos b,(j:Nat)⟩):=by
 have hc:cmpRes m (b,j) (a,i)=(lcmp m (b,j) (a,i),0):=if_neg (fun h=>h ht);have hPb:PtOk m (b,j):=⟨has_lt hb,kb⟩;have hPa:PtOk m (a,i):=⟨has_lt ha,ka⟩
 rcases lcmp_three F.wf (a:=(b,j)) (b:=(a,i)) ht with h|h|h
 ·left
  refine⟨h,?_⟩;unfold movedEnd;rw[hc,h,if_pos (Or.inr rfl)]
 ·right;left
  have e:=refCmp_zero F.wf hPb hPa ht h;injection e with e1 e2
  refine⟨h,e1,e2,?_⟩;unfold movedEnd;rw[hc,h,if_neg (by decide)];unfold putEnd;rw[e1,e2]
 ·right;right
  refine⟨h,hd_or F ha hb (fun e=>?_),?_⟩
  ·rw[e,lcmp_self]at h;cases h
  ·unfold movedEnd
   rw[hc,h,if_neg (by decide)];rfl
end
end A
end
section
open Go.RowKit Go.Shelf Go.Sort
namespace A
open H G R
theorem text_none(S:SMem)(tb:Nat)(id:Int)(w:World)(hSe:SetMem w S)(hfi:findR S.rs id=none) :
  Calls Tryz.prog 22 #[.pointer (some ⟨S.sb,0,none⟩),.pointer (some ⟨tb,0,none⟩),.int .i64 id] w fun e w'=>e=.returned (.tuple #[.string ⟨#[]⟩,.int .i64 6])/\Below w.heap.size w w':=by
 have hb1:=(Below.refl w.heap.size w).alloc (Nat.le_refl _) (.cells #[.pointer (some ⟨tb,0,none⟩)] 37);have QF:=hi_ (find_ S id _ (hSe.below hb1));rw[ptr_no hfi]at QF;have HB2:=hi_ (hb1.alloc hb1.size (.cells #[.pointer none] 111));clear hb1 hSe hfi
 go_enter Tryz.func22,Tryz.ntmps22
 go_wp2_with fail
 refine QF.out.mono ?_;rintro e w1 ⟨rfl,hw1⟩;subst hw1;clear QF;go_wp2_with fail
 exact bodyPost_ret (v:=.tuple #[.string ⟨#[]⟩,.int .i64 6]) (by simp[results,Tryz.results22,go_sem]) rfl ⟨rfl,HB2.out⟩
end A
end
section
open Go.RowKit Go.Sort
namespace A
open H G R
theorem set_not{w:World}{S:SMem}(h:SetMem w S){k:Nat}{cs:Array Value}{t:TypeId}(hb:Blk k cs t w)(ht:∀s∈setTypes,s≠t):¬S.foot k:=fun hs=>by
 obtain⟨s,hs2,h2⟩:=h.typed hs;exact ht s hs2 (h2.eq ⟨cs,hb⟩)
structure Stg(w4 W:World)(S:SMem)(gA gP gB gQ:Nat)(a i b j:Nat)(za zb:Int):Prop where
 D:Below w4.heap.size w4 W
 S:SetMem W S
 A:Blk gA #[.int .i64 (a:Nat),.int .i64 (i:Nat)] 30 W
 P:Blk gP #[.int .i64 za,.int .i64 (i:Nat)] 31 W
 B:Blk gB #[.int .i64 (b:Nat),.int .i64 (j:Nat)] 30 W
 Q:Blk gQ #[.int .i64 zb,.int .i64 (j:Nat)] 31 W
section
variable {w4 W W':World} {S S':SMem} {gA gP gB gQ a i b j:Nat} {za zb:Int}
theorem Stg.below(h:Stg w4 W S gA gP gB gQ a i b j za zb)(k:Below W.heap.size W W'):Stg w4 W' S gA gP gB gQ a i b j za zb:=
 ⟨h.D.trans (k.mono h.D.size),h.S.below k,h.A.below k,h.P.below k,h.B.below k,h.Q.below k⟩
theorem Stg.frame(h:Stg w4 W S gA gP gB gQ a i b j za zb)(f:H.Frame S.foot W W')(hs:SetMem W' S')(hl:∀k,S.foot k->w4.heap.size<=k):Stg w4 W' S' gA gP gB gQ a i b j za zb:=
 ⟨h.D.trans (f.below hl h.D.size),hs,h.A.frame f (set_not h.S h.A (by decide)),h.P.frame f (set_not h.S h.P (by decide)),h.B.frame f (set_not h.S h.B (by decide)),h.Q.frame f (set_not h.S h.Q (by decide))⟩
theorem Stg.cells(h:Stg w4 W S gA gP gB gQ a i b j za zb){g:Nat}{t:TypeId}{u0 u1 u2:Value}(hX:Blk g #[u0,u1,u2] t W) :
  (W.cell? ⟨g,0,none⟩=some u0/\W.cell? ⟨g,1,none⟩=some u1/\(∀d:Later W.heap.size W,d.w.cell? ⟨g,0,none⟩=some u0)/\∀d:Later W.heap.size W,d.w.cell? ⟨g,1,none⟩=some u1) ∧
  (W.cell? ⟨gA,0,none⟩=some (.int .i64 (a:Nat))/\W.cell? ⟨gA,1,none⟩=some (.int .i64 (i:Nat))/\(∀d:Later W.heap.size W,d.w.cell? ⟨gA,0,none⟩=some (.int .i64 (a:Nat)))/\∀d:Later W.heap.size W,d.w.cell? ⟨gA,1,none⟩=some (.int .i64 (i:Nat))) ∧
  (W.cell? ⟨gB,0,none⟩=some (.int .i64 (b:Nat))/\W.cell? ⟨gB,1,none⟩=some (.int .i64 (j:Nat))/\(∀d:Later W.heap.size W,d.w.cell? ⟨gB,0,none⟩=some (.int .i64 (b:Nat)))/\∀d:Later W.heap.size W,d.w.cell? ⟨gB,1,none⟩=some (.int .i64 (j:Nat))) ∧
  (W.cell? ⟨gP,0,none⟩=some (.int .i64 za)/\W.cell? ⟨gP,1,none⟩=some (.int .i64 (i:Nat))/\(∀d:Later W.heap.size W,d.w.cell? ⟨gP,0,none⟩=some (.int .i64 za))/\∀d:Later W.heap.size W,d.w.cell? ⟨gP,1,none⟩=some (.int .i64 (i:Nat))) ∧
  (W.cell? ⟨gQ,0,none⟩=some (.int .i64 zb)/\W.cell? ⟨gQ,1,none⟩=some (.int .i64 (j:Nat))/\(∀d:Later W.heap.size W,d.w.cell? ⟨gQ,0,none⟩=some (.int .i64 zb))/\∀d:Later W.heap.size W,d.w.cell? ⟨gQ,1,none⟩=some (.int .i64 (j:Nat))) ∧
  (W.cell? ⟨S.sb,0,none⟩=some S.rv/\∀d:Later W.heap.size W,d.w.cell? ⟨S.sb,0,none⟩=some S.rv):=
 ⟨⟨(cells_of hX).1 0,(cells_of hX).1 1,fun d=>Later.cell ((cells_of hX).1 0) hX.lt d,fun d=>Later.cell ((cells_of hX).1 1) hX.lt d⟩,later2 h.A,later2 h.B,later2 h.P,later2 h.Q,(cells_of h.S.blk).1 0,fun d=>Later.cell ((cells_of h.S.blk).1 0) h.S.blk.lt d⟩
end
end A
end
section
open Go.RowKit Go.Sort
namespace A
open H G R
theorem sl_le(L:List (List UInt8))(f t:Nat):(sl L f t).length<=L.flatten.length:=by
 unfold sl;have h1:L=L.take t++L.drop t:=(List.take_append_drop _ _).symm;have h2:L.take t=(L.take t).take f++(L.take t).drop f:=(List.take_append_drop _ _).symm;have h3:=congrArg (fun l:List (List UInt8)=>l.flatten.length) h1;have h4:=congrArg (fun l:List (List UInt8)=>l.flatten.length) h2;simp only[List.flatten_append,List.length_append]at h3 h4;omega
theorem piece_le{m:Model}(hD:Whole m)(a b:Nat×Nat)(h:Nat):(pieceOf m a b h).length<=100000:=by
 unfold pieceOf;have h2:(U.pts (nd m h).data).flatten=(nd m h).data:=(hD h).2
 split
 ·simp
 ·split
  ·simp
  ·split
   ·simp
   ·have h1:=sl_le (U.pts (nd m h).data) (if h=a.1 then a.2 else 0) (if h=b.1 then b.2 else(U.pts (nd m h).data).length)
    rw[h2]at h1;exact Nat.le_trans h1 (hD h).1
theorem prog_le{m:Model}(W:WF m)(hD:Whole m)(hl:m.length<=2000)(a b:Nat×Nat)(ha:a.1<m.length):(progText m a b).length<=1000000000:=by
 have h1:=flat_le (piece_le hD a b) (walk m (top m a.1));have h2:(walk m (top m a.1)).length<=(List.range m.length).length:=List.Nodup.length_le_of_subset (WF.walk_nodup W _) (fun x hx=>List.mem_range.2 (walk_lt W _ (W.top_lt _ ha) x hx));rw[List.length_range]at h2;have h3:(walk m (top m a.1)).length*100000<=2000*100000:=Nat.mul_le_mul_right _ (Nat.le_trans h2 hl);unfold progText;omega
theorem end_le{T:TMem}{m:Model}{pos:Nat->Nat}{a b i j:Nat}(F:Fits T m pos)(ha:has m a=true)(hb:has m b=true)(ka:i<=G.sizeOf m a)(kb:j<=G.sizeOf m b)(ht:top m a=top m b)(hc:lcmp m (a,i) (b,j)<=0) :
  movedEnd m (b,j) (a,i) (hd T pos b) (j:Nat) ⟨1,hd T pos a,(i:Nat),hd T pos a,(i:Nat)⟩=⟨1,hd T pos a,(i:Nat),hd T pos b,(j:Nat)⟩:=by
 have hn:=lcmp_neg F.wf (a:=(a,i)) (b:=(b,j)) ht
 rcases end_near F ha hb ka kb ht.symm with⟨h,_⟩|⟨_,e1,e2,h⟩|⟨_,_,h⟩
 ·omega
 ·rw[h,e1,e2]
 ·exact h
theorem text_one(T:TMem)(m:Model)(pos:Nat->Nat)(sb:Nat)(ao:Option Addr)(cap:Nat)(a b:Nat×Nat)(w:World)(hT:TreeIs w T m pos)(hS:SetMem w (SMem.one sb ao cap ⟨1,hd T pos a.1,(a.2:Nat),hd T pos b.1,(b.2:Nat)⟩))(hm:Small m)(hTab:Go.Proofs.YtinphfpdfodkkaaGreatDoor.T.Tabs w)(hD:Whole m)(hl:m.length<=2000)
  (ha:has m a.1=true) (hb:has m b.1=true) (ka:a.2<=G.sizeOf m a.1) (kb:b.2<=G.sizeOf m b.1) (ht:top m a.1=top m b.1) :
  Calls Tryz.prog 22 #[.pointer (some ⟨sb,0,none⟩),.pointer (some ⟨T.tb,0,none⟩),.int .i64 1] w fun e w'=>e=.returned (.tuple #[.string ⟨(refText m a b).toArray⟩,.int .i64 0])/\Below w.heap.size w w':=by
 have W:=hT.fits.wf;have hsz:=fun i=>size_short W hD (by omega) i;have h1:=hsz a.1;have h2:=hsz b.1;have:=text_ T m pos (SMem.one sb ao cap ⟨1,hd T pos a.1,(a.2:Nat),hd T pos b.1,(b.2:Nat)⟩) 1 0 a b w hT hS hm hTab (find_one _ rfl) (by show 0<1;omega) ha hb (okPt_of ka) (okPt_of kb) (by omega) (by omega) ht.symm rfl rfl rfl rfl (prog_le W hD hl a b (has_lt ha));rw[text_ref W ⟨has_lt ha,ka⟩ ⟨has_lt hb,kb⟩ ht]at this;exact this
theorem Texts(os:List G.Op)(v:Value)(p q p2 q2:Nat)(w:World)(h:OpsAt w v os)(hl:os.length<=9223372036854775807)(hf:∀o,o∈os->o.fits)(ht:UTabs w)(hp:p<256)(hq:q<256)(hp2:p2<256)(hq2:q2<256) :
  Calls Tryz.prog 5 #[v,.agg #[.int .u8 (p:Nat),.int .u8 (q:Nat)],.agg #[.int .u8 (p2:Nat),.int .u8 (q2:Nat)]] w fun e w'=>e=.returned (.bool true)/\Below w.heap.size w w':=by
 have hb1:=((Below.refl w.heap.size w).alloc (Nat.le_refl _) (.cells #[.int .u8 (p:Nat),.int .u8 (q:Nat)] 24)).alloc (by simp) (.cells #[.int .u8 (p2:Nat),.int .u8 (q2:Nat)] 24);have HX1:=hi_ ((Blk.new w #[.int .u8 (p:Nat),.int .u8 (q:Nat)] 24).alloc (.cells #[.int .u8 (p2:Nat),.int .u8 (q2:Nat)] 24));have HX2:=hi_ (Blk.new (w.alloc (.cells #[.int .u8 (p:Nat),.int .u8 (q:Nat)] 24)) #[.int .u8 (p2:Nat),.int .u8 (q2:Nat)] 24);simp only[World.size_alloc]at HX2;have HB1:=hi_ hb1;have HO:=hi_ h;have HF:=hi_ hf;have HT:=hi_ ht;have QA:=hi_ (fun W=>awake9 W);have QF:=hi_ (fun W (hW:Below w.heap.size w W)=>few_ os v W (h.below hW) hl)
 have QS:=hi_ (fun W (hW:Below w.heap.size w W) (hfw:few os=true)=>start_ os v W (h.below hW) hfw hf (Go.Proofs.YtinphfpdfodkkaaGreatDoor.T.Tabs.below ht hW));have QP:=hi_ (fun(a b:Nat) (ha:a<256) (hb:b<256) (X:Tw) (w0 W:World) (hX:TwIs w0 W X) (g:Good X)=>point_ w0 W X a b hX g.mm g.whole (by have:=g.len;omega) ha hb);clear h hf ht hb1
 go_enter Tryz.func5,Tryz.ntmps5
 go_upto_region 1 with fail
 generalize (w.alloc (.cells #[.int .u8 (p:Nat),.int .u8 (q:Nat)] 24)).alloc (.cells #[.int .u8 (p2:Nat),.int .u8 (q2:Nat)] 24)=w1 at *;go_wp2_with fail
 refine(QA.out _).mono ?_;rintro e w2 ⟨rfl,hb2⟩;have HB2:=bt_ HB1 hb2;have HY1:=hi_ (HX1.out.below hb2);have HY2:=hi_ (HX2.out.below hb2);clear hb2 HX1 HX2;have QFw:=hi_ (QF.out w2 HB2.out);have HFw:Hid (few os=few os):=hi_ rfl;generalize hfw:few os=fw at *;have HFw2:=hi_ hfw;clear hfw HFw;go_wp2_with fail
 refine QFw.out.mono ?_;rintro e w3 ⟨rfl,rfl⟩
 cases fw with
 |false=>
  go_wp2_with fail
  refine(QA.out _).mono ?_;rintro e w4 ⟨rfl,hb4⟩;have HB4:=bt_ HB2 hb4;clear hb4;go_wp2_with fail
  go_ret
  exact⟨rfl,HB4.out⟩
 |true=>
  have QSt:=hi_ (QS.out w2 HB2.out rfl);go_wp2_with fail
  refine QSt.out.mono ?_;rintro e w4 ⟨X,rfl,hX,hG⟩;have HX:=hi_ hX;have HG:=hi_ hG;have HW4:=bt_ HB2 hX.bel;have HX1:=hi_ (HY1.out.below hX.bel);have HZ1:=hi_ (HY2.out.below hX.bel);have HT4:=hi_ (Go.Proofs.YtinphfpdfodkkaaGreatDoor.T.Tabs.below HT.out HW4.out);clear hX hG QSt QS QFw QF HY1 HY2 HB1 HB2 HF HT HO HFw2;go_upto_region 5 with fail
  have HD5:=hi_ ((Below.refl w4.heap.size w4).alloc (Nat.le_refl _) (.cells #[.slice none 0 0,.slice none 0 0,.int .i64 0] 50));have HS5:=hi_ (SetMem.new w4);have HX2:=hi_ (HX1.out.below HD5.out);have HZ2:=hi_ (HZ1.out.below HD5.out);have HLo:Hid (∀(u:Nat) b,(SMem.zero w4.heap.size).foot b->w4.heap.size<=b):=hi_ (fun _ b hb=>SMem.zero_foot hb);generalize w4.alloc (.cells #[.slice none 0 0,.slice none 0 0,.int .i64 0] 50)=w5 at *;clear HX1 HZ1;obtain⟨b0,b1⟩:=cells2 HX2.out;have QP1:=hi_ (QP.out p q hp hq X _ w5 (HX.out.below HD5.out) HG.out);unfold pointR pointV at QP1;go_wp2_with fail
  refine QP1.out.mono ?_;rintro e w6 ⟨rfl,hb6⟩;have HD6:=bt_ HD5 hb6;have HS6:=hi_ (HS5.out.below hb6);have HZ3:=hi_ (HZ2.out.below hb6);clear hb6 HD5 HS5 HX2 HZ2 b0 b1 QP1;go_upto_region 6 with fail
  obtain⟨hbp,hpA,hpB⟩:=two_pts w6 (spotN X.m p) (spotI X.m p q) (hv1 X.T X.pos X.m (spotN X.m p));have HD7:=bt_ HD6 hbp;have HS7:=hi_ (HS6.out.below hbp);have HX4:=hi_ (HZ3.out.below hbp);have HA7:=hi_ hpA;have HP7:=hi_ hpB;clear hbp hpA hpB HD6 HS6 HZ3;generalize (w6.alloc (.cells #[.int .i64 (spotN X.m p:Nat),.int .i64 (spotI X.m p q:Nat)] 30)).alloc (.cells #[.int .i64 (hv1 X.T X.pos X.m (spotN X.m p)),.int .i64 (spotI X.m p q:Nat)] 31)=w7 at *;obtain⟨b0,b1⟩:=cells2 HX4.out;have QP2:=hi_ (QP.out p2 q2 hp2 hq2 X _ w7 (HX.out.below HD7.out) HG.out);unfold pointR pointV at QP2;go_wp2_with fail
  refine QP2.out.mono ?_;rintro e w8 ⟨rfl,hb8⟩;have HD8:=bt_ HD7 hb8;have HS8:=hi_ (HS7.out.below hb8);have HA8:=hi_ (HA7.out.below hb8);have HP8:=hi_ (HP7.out.below hb8);clear hb8 HD7 HS7 HA7 HP7 HX4 b0 b1 QP2 QP;go_upto_region 7 with fail
  obtain⟨hbp,hpA,hpB⟩:=two_pts w8 (spotN X.m p2) (spotI X.m p2 q2) (hv1 X.T X.pos X.m (spotN X.m p2));have HK9:Hid (Stg w4 _ (SMem.zero w4.heap.size) w6.heap.size (w6.heap.size+1) w8.heap.size (w8.heap.size+1) (spotN X.m p) (spotI X.m p q) (spotN X.m p2) (spotI X.m p2 q2) (hv1 X.T X.pos X.m (spotN X.m p)) (hv1 X.T X.pos X.m (spotN X.m p2))):=hi_ ⟨HD8.out.trans (hbp.mono HD8.out.size),HS8.out.below hbp,HA8.out.below hbp,HP8.out.below hbp,hpA,hpB⟩;clear hbp hpA hpB HD8 HS8 HA8 HP8;generalize (w8.alloc (.cells #[.int .i64 (spotN X.m p2:Nat),.int .i64 (spotI X.m p2 q2:Nat)] 30)).alloc (.cells #[.int .i64 (hv1 X.T X.pos X.m (spotN X.m p2)),.int .i64 (spotI X.m p2 q2:Nat)] 31)=w9 at *;have hW:=HX.out.tree.fits.wf;have hna:=spotN_lt hW p;have hnb:=spotN_lt hW p2;have hmm:=HG.out.mm;have hsm:=HG.out.small
  have hml:X.M.nodes.length=X.m.length:=by rw[<-X.M.m_len,hmm]
  have hsz:=fun i=>size_short hW HG.out.whole (by have:=HG.out.len;omega) i;have QH1:=hi_ (fun W (hM:ModelMem W X.M)=>mHas X.M (spotN X.m p) W hM);have QH2:=hi_ (fun W (hM:ModelMem W X.M)=>mHas X.M (spotN X.m p2) W hM);have QT1:=hi_ (fun W (hM:ModelMem W X.M)=>mTop X.M (spotN X.m p) W hM (by rw[hmm];exact hW) (by rw[hml];exact hna));have QT2:=hi_ (fun W (hM:ModelMem W X.M)=>mTop X.M (spotN X.m p2) W hM (by rw[hmm];exact hW) (by rw[hml];exact hnb))
  have QR0:=hi_ (fun W (hM:ModelMem W X.M) (ha:has X.m (spotN X.m p)=true) (hb:has X.m (spotN X.m p2)=true) (ht:top X.m (spotN X.m p)=top X.m (spotN X.m p2))=>mCompare X.M (spotN X.m p,spotI X.m p q) (spotN X.m p2,spotI X.m p2 q2) W hM (by rw[hmm];exact hW) (by rw[hmm];exact HG.out.whole) (by rw[hmm];have:=HG.out.len;omega) (by rw[hmm];exact⟨hna,spot_ok ha⟩) (by rw[hmm];exact⟨hnb,spot_ok hb⟩) (by rw[hmm];exact ht))
  have QX0:=hi_ (fun W (hM:ModelMem W X.M) (ha:has X.m (spotN X.m p)=true) (hb:has X.m (spotN X.m p2)=true) (ht:top X.m (spotN X.m p)=top X.m (spotN X.m p2))=>mText X.M (spotN X.m p,spotI X.m p q) (spotN X.m p2,spotI X.m p2 q2) W hM (by rw[hmm];exact hW) (by rw[hmm];exact HG.out.whole) (by rw[hmm];have:=HG.out.len;omega) (by rw[hmm];exact⟨hna,spot_ok ha⟩) (by rw[hmm];exact⟨hnb,spot_ok hb⟩) (by rw[hmm];exact ht));have HRc:=hi_ (fun(ha:has X.m (spotN X.m p)=true) (hb:has X.m (spotN X.m p2)=true) (ht:top X.m (spotN X.m p)=top X.m (spotN X.m p2))=>lcmp_ref hW (a:=(spotN X.m p,spotI X.m p q)) (b:=(spotN X.m p2,spotI X.m p2 q2)) ⟨hna,spot_ok ha⟩ ⟨hnb,spot_ok hb⟩ ht);have HKa:=hi_ (fun(ha:has X.m (spotN X.m p)=true)=>spot_ok (q:=q) ha);have HKb:=hi_ (fun(hb:has X.m (spotN X.m p2)=true)=>spot_ok (q:=q2) hb)
  rw[hmm]at QH1 QH2 QT1 QT2 QR0 QX0;generalize spotI X.m p q=i at *;generalize spotI X.m p2 q2=j at *;generalize spotN X.m p=a at *;generalize spotN X.m p2=b at *;clear hp hq hp2 hq2 hna hnb hmm hml;have QN:=hi_ (text_none (SMem.zero w4.heap.size) X.T.tb 5 w9 HK9.out.S rfl);have HX9:=hi_ (HX.out.below HK9.out.D);obtain⟨⟨c0,c1,Dc0,Dc1⟩,⟨a0,a1,Da0,Da1⟩,⟨b0,b1,Db0,Db1⟩,⟨p0,p1,Dp0,Dp1⟩,⟨q0,q1,Dq0,Dq1⟩,y0,Dy0⟩:=HK9.out.cells HX9.out.blk;dsimp only[SMem.zero]at y0 Dy0;go_wp2_with fail
  refine QN.out.mono ?_;rintro e w10 ⟨rfl,hb10⟩;have HK10:=hi_ (HK9.out.below hb10);clear Dc0 Dc1 Da0 Da1 Db0 Db1 Dp0 Dp1 Dq0 Dq1 Dy0 a0 a1 b0 b1 p0 p1 q0 q1 c0 c1 y0;clear HK9;clear hb10;clear QN
  cases hha:has X.m a with
  |false=>
   rw[hha]at QH1;clear QR0 QX0 HRc HKa HKb hha hsm hsz hW;have HX10:=hi_ (HX.out.below HK10.out.D);obtain⟨⟨c0,c1,Dc0,Dc1⟩,⟨a0,a1,Da0,Da1⟩,⟨b0,b1,Db0,Db1⟩,⟨p0,p1,Dp0,Dp1⟩,⟨q0,q1,Dq0,Dq1⟩,y0,Dy0⟩:=HK10.out.cells HX10.out.blk;dsimp only[SMem.zero]at y0 Dy0;go_wp2_with fail
   refine wp_region_later (by kernel_rfl) (by kernel_rfl) ?_;repeat (go_big_quiet_step ((first|(go_at_call_of 14 (Value.int .i64 ((a:Nat):Int));with_reducible exact Calls.later_same (QH1.out _ ((HX10.out.below (Later.h _)).model)))|(go_at_call 14;with_reducible exact Calls.later_same (QH2.out _ ((HX10.out.below (Later.h _)).model)))|(go_at_call_of 15 (Value.int .i64 ((a:Nat):Int));with_reducible exact Calls.later_same (QT1.out _ ((HX10.out.below (Later.h _)).model)))|(go_at_call 15;with_reducible exact Calls.later_same (QT2.out _ ((HX10.out.below (Later.h _)).model)))|(go_at_call 16;exact Calls.later (QR.out _ ((HX10.out.below (Later.h _)).model))))))
   refine wq_ (fun dq=>?_);have HK11:=hi_ (HK10.out.below dq.h);clear Dc0 Dc1 Da0 Da1 Db0 Db1 Dp0 Dp1 Dq0 Dq1 Dy0 a0 a1 b0 b1 p0 p1 q0 q1 c0 c1 y0;clear HK10;generalize dq.w=w11 at *;clear dq;have HWk:=bt_ HW4 HK11.out.D;go_wp2_with fail
   go_ret
   exact⟨rfl,HWk.out⟩
  |true=>
   rw[hha]at QH1
   cases hhb:has X.m b with
   |false=>
    rw[hhb]at QH2;clear QR0 QX0 HRc HKa HKb hha hhb hsm hsz hW;have HX10:=hi_ (HX.out.below HK10.out.D);obtain⟨⟨c0,c1,Dc0,Dc1⟩,⟨a0,a1,Da0,Da1⟩,⟨b0,b1,Db0,Db1⟩,⟨p0,p1,Dp0,Dp1⟩,⟨q0,q1,Dq0,Dq1⟩,y0,Dy0⟩:=HK10.out.cells HX10.out.blk;dsimp only[SMem.zero]at y0 Dy0;go_wp2_with fail
    refine wp_region_later (by kernel_rfl) (by kernel_rfl) ?_;repeat (go_big_quiet_step ((first|(go_at_call_of 14 (Value.int .i64 ((a:Nat):Int));with_reducible exact Calls.later_same (QH1.out _ ((HX10.out.below (Later.h _)).model)))|(go_at_call 14;with_reducible exact Calls.later_same (QH2.out _ ((HX10.out.below (Later.h _)).model)))|(go_at_call_of 15 (Value.int .i64 ((a:Nat):Int));with_reducible exact Calls.later_same (QT1.out _ ((HX10.out.below (Later.h _)).model)))|(go_at_call 15;with_reducible exact Calls.later_same (QT2.out _ ((HX10.out.below (Later.h _)).model)))|(go_at_call 16;exact Calls.later (QR.out _ ((HX10.out.below (Later.h _)).model))))))
    refine wq_ (fun dq=>?_);have HK11:=hi_ (HK10.out.below dq.h);clear Dc0 Dc1 Da0 Da1 Db0 Db1 Dp0 Dp1 Dq0 Dq1 Dy0 a0 a1 b0 b1 p0 p1 q0 q1 c0 c1 y0;clear HK10;generalize dq.w=w11 at *;clear dq;have HWk:=bt_ HW4 HK11.out.D;go_wp2_with fail
    go_ret
    exact⟨rfl,HWk.out⟩
   |true=>
    rw[hhb]at QH2
    by_cases ht:top X.m a=top X.m b
    ·have QR:=hi_ (fun W (hM:ModelMem W X.M)=>QR0.out W hM hha hhb ht)
     rw[<-HRc.out hha hhb ht]at QR;have QX:=hi_ (fun W (hM:ModelMem W X.M)=>QX0.out W hM hha hhb ht);have te2:(((top X.m a:Nat):Int)==((top X.m b:Nat):Int))=true:=by rw[ht];exact beq_self_eq_true _
     have te3:(((top X.m a:Nat):Int) != ((top X.m b:Nat):Int))=false:=by rw[ht];simp
     have te4:((top X.m a:Nat):Int)=((top X.m b:Nat):Int):=by rw[ht]
     by_cases hc:lcmp X.m (a,i) (b,j)<=0
     ·have hka:=HKa.out hha
      have hkb:=HKb.out hhb;have hszA:=hsz a;have hszB:=hsz b;have hza:hv1 X.T X.pos X.m a=hd X.T X.pos a:=hv1_of hha;have hzb:hv1 X.T X.pos X.m b=hd X.T X.pos b:=hv1_of hhb;have hpa:PtIs X.T X.m X.pos (hd X.T X.pos a) (i:Nat) 0:=Or.inl ⟨a,hha,rfl,by rw[if_pos (okPt_of hka)]⟩;have hend:=end_le HX.out.tree.fits hha hhb hka hkb ht hc;have QC:=hi_ (fun W (hT:TreeIs W X.T X.m X.pos) (hS:SetMem W (SMem.zero w4.heap.size))=>create_one X.T X.m X.pos w4.heap.size _ _ W hT hS hsm hpa);have QE:=hi_ (fun ao cap W (hT:TreeIs W X.T X.m X.pos) (hS:SetMem W (SMem.one w4.heap.size ao cap ⟨1,hd X.T X.pos a,(i:Nat),hd X.T X.pos a,(i:Nat)⟩))=>setEnd_one X.T X.m X.pos w4.heap.size ao cap _ (b,j) (a,i) W hT hS hsm rfl hhb hkb (by show j<=_;omega) hha hka (by show i<=_;omega) rfl rfl)
      have QTx:=hi_ (fun ao cap W (hT:TreeIs W X.T X.m X.pos) (hS:SetMem W (SMem.one w4.heap.size ao cap ⟨1,hd X.T X.pos a,(i:Nat),hd X.T X.pos b,(j:Nat)⟩)) (hTb:Go.Proofs.YtinphfpdfodkkaaGreatDoor.T.Tabs W)=>text_one X.T X.m X.pos w4.heap.size ao cap (a,i) (b,j) W hT hS hsm hTb HG.out.whole (by have:=HG.out.len;omega) hha hhb hka hkb ht);rw[hend]at QE;rw[hza,hzb]at HK10 ⊢;unfold pointV at QC QE;dsimp only at QC QE QTx QX QR;have hc2:decide (lcmp X.m (a,i) (b,j) > 0)=false:=decide_eq_false (by omega);have hc3:¬(lcmp X.m (a,i) (b,j) > 0):=by omega
      have hc4:decide (0<lcmp X.m (a,i) (b,j))=false:=decide_eq_false (by omega);have hc5:¬(0<lcmp X.m (a,i) (b,j)):=by omega
      generalize top X.m a=t at *;generalize top X.m b=t2 at *;generalize lcmp X.m (a,i) (b,j)=lc at *;generalize refText X.m (a,i) (b,j)=tx at *;generalize hd X.T X.pos a=za at *;generalize hd X.T X.pos b=zb at *;clear QR0 QX0 HRc HKa HKb hha hhb hsm hsz hW hka hkb hszA hszB hza hzb hpa hend ht;have HX10:=hi_ (HX.out.below HK10.out.D);obtain⟨⟨c0,c1,Dc0,Dc1⟩,⟨a0,a1,Da0,Da1⟩,⟨b0,b1,Db0,Db1⟩,⟨p0,p1,Dp0,Dp1⟩,⟨q0,q1,Dq0,Dq1⟩,y0,Dy0⟩:=HK10.out.cells HX10.out.blk;dsimp only[SMem.zero]at y0 Dy0;go_wp2_with fail
      refine wp_region_later (by kernel_rfl) (by kernel_rfl) ?_;repeat (go_big_quiet_step ((first|(go_at_call_of 14 (Value.int .i64 ((a:Nat):Int));with_reducible exact Calls.later_same (QH1.out _ ((HX10.out.below (Later.h _)).model)))|(go_at_call 14;with_reducible exact Calls.later_same (QH2.out _ ((HX10.out.below (Later.h _)).model)))|(go_at_call_of 15 (Value.int .i64 ((a:Nat):Int));with_reducible exact Calls.later_same (QT1.out _ ((HX10.out.below (Later.h _)).model)))|(go_at_call 15;with_reducible exact Calls.later_same (QT2.out _ ((HX10.out.below (Later.h _)).model)))|(go_at_call 16;exact Calls.later (QR.out _ ((HX10.out.below (Later.h _)).model))))))
      refine wq_ (fun dq=>?_);have HK11:=hi_ (HK10.out.below dq.h);clear Dc0 Dc1 Da0 Da1 Db0 Db1 Dp0 Dp1 Dq0 Dq1 Dy0 a0 a1 b0 b1 p0 p1 q0 q1 c0 c1 y0;clear HK10;generalize dq.w=w11 at *;clear dq;clear QR QT1 QT2 QH1 QH2 te2 te3 te4 hc hc2 hc3 hc4 hc5;have HX11:=hi_ (HX.out.below HK11.out.D);obtain⟨⟨c0,c1,Dc0,Dc1⟩,⟨a0,a1,Da0,Da1⟩,⟨b0,b1,Db0,Db1⟩,⟨p0,p1,Dp0,Dp1⟩,⟨q0,q1,Dq0,Dq1⟩,y0,Dy0⟩:=HK11.out.cells HX11.out.blk;dsimp only[SMem.zero]at y0 Dy0;go_wp2_with fail
      refine wp_region_mid 5 _ _ (by kernel_rfl) (by kernel_rfl) rfl ?_;simp only[List.take_succ_cons,List.take_zero];repeat (go_big_quiet_step (fail))
      refine wq_ (fun dq=>?_);intro K hK;have HK12:=hi_ (HK11.out.below dq.h);clear Dc0 Dc1 Da0 Da1 Db0 Db1 Dp0 Dp1 Dq0 Dq1 Dy0 a0 a1 b0 b1 p0 p1 q0 q1 c0 c1 y0;clear HK11;generalize dq.w=w12 at *;clear dq;go_simp
      go_at_call 17
      refine(QC.out w12 (HX.out.below HK12.out.D).tree HK12.out.S).mono ?_;rintro e w13 ⟨ao,cap,rfl,hf,hs,hlo1⟩;have HK13:=hi_ (HK12.out.frame hf hs (HLo.out 0));clear hf hs;clear HK12;go_simp
      refine hK _ _ (midQ_normal ?_);clear hK K;repeat (go_big_quiet_step (fail))
      refine wq_ (fun dq=>?_);have HK14:=hi_ (HK13.out.below dq.h);clear HK13;generalize dq.w=w14 at *;clear dq;clear HLo QC;have HLo:=hi_ hlo1;clear hlo1;have QE:=hi_ (QE.out ao cap);have QTx:=hi_ (QTx.out ao cap);have HX14:=hi_ (HX.out.below HK14.out.D);obtain⟨⟨c0,c1,Dc0,Dc1⟩,⟨a0,a1,Da0,Da1⟩,⟨b0,b1,Db0,Db1⟩,⟨p0,p1,Dp0,Dp1⟩,⟨q0,q1,Dq0,Dq1⟩,y0,Dy0⟩:=HK14.out.cells HX14.out.blk;dsimp only[SMem.one]at y0 Dy0;go_wp2_with fail
      refine wp_region_mid 6 _ _ (by kernel_rfl) (by kernel_rfl) rfl ?_;simp only[List.take_succ_cons,List.take_zero];repeat (go_big_quiet_step (fail))
      refine wq_ (fun dq=>?_);intro K hK;have HK15:=hi_ (HK14.out.below dq.h);clear Dc0 Dc1 Da0 Da1 Db0 Db1 Dp0 Dp1 Dq0 Dq1 Dy0 a0 a1 b0 b1 p0 p1 q0 q1 c0 c1 y0;clear HK14;generalize dq.w=w15 at *;clear dq;go_simp
      go_at_call 19
      refine(QE.out w15 (HX.out.below HK15.out.D).tree HK15.out.S).mono ?_;rintro e w16 ⟨rfl,hf,hs⟩;have HK16:=hi_ (HK15.out.frame hf hs (HLo.out _));clear hf hs;clear HK15;go_simp
      refine hK _ _ (midQ_normal ?_);clear hK K;repeat (go_big_quiet_step (fail))
      refine wq_ (fun dq=>?_);have HK17:=hi_ (HK16.out.below dq.h);clear HK16;generalize dq.w=w17 at *;clear dq;have HX17:=hi_ (HX.out.below HK17.out.D);obtain⟨⟨c0,c1,Dc0,Dc1⟩,⟨a0,a1,Da0,Da1⟩,⟨b0,b1,Db0,Db1⟩,⟨p0,p1,Dp0,Dp1⟩,⟨q0,q1,Dq0,Dq1⟩,y0,Dy0⟩:=HK17.out.cells HX17.out.blk;dsimp only[SMem.one]at y0 Dy0;go_wp2_with fail
      refine(QTx.out w17 HX17.out.tree HK17.out.S (Go.Proofs.YtinphfpdfodkkaaGreatDoor.T.Tabs.below HT4.out HK17.out.D)).mono ?_;rintro e w18 ⟨rfl,hb18⟩;have HK18:=hi_ (HK17.out.below hb18);clear Dc0 Dc1 Da0 Da1 Db0 Db1 Dp0 Dp1 Dq0 Dq1 Dy0 a0 a1 b0 b1 p0 p1 q0 q1 c0 c1 y0;clear HK17;clear hb18;have HX18:=hi_ (HX.out.below HK18.out.D);obtain⟨⟨c0,c1,Dc0,Dc1⟩,⟨a0,a1,Da0,Da1⟩,⟨b0,b1,Db0,Db1⟩,⟨p0,p1,Dp0,Dp1⟩,⟨q0,q1,Dq0,Dq1⟩,y0,Dy0⟩:=HK18.out.cells HX18.out.blk;dsimp only[SMem.one]at y0 Dy0;go_wp2_with fail
      refine wp_region_later (by kernel_rfl) (by kernel_rfl) ?_;repeat (go_big_quiet_step ((go_at_call 23;exact Calls.later (QX.out _ ((HX18.out.below (Later.h _)).model)))))
      refine wq_ (fun dq=>?_);have HK19:=hi_ (HK18.out.below dq.h);clear Dc0 Dc1 Da0 Da1 Db0 Db1 Dp0 Dp1 Dq0 Dq1 Dy0 a0 a1 b0 b1 p0 p1 q0 q1 c0 c1 y0;clear HK18;generalize dq.w=w19 at *;clear dq;have HWk:=bt_ HW4 HK19.out.D;go_wp2_with fail
      go_ret
      exact⟨rfl,HWk.out⟩
     ·have hc2:decide (lcmp X.m (a,i) (b,j) > 0)=true:=decide_eq_true (by omega)
      have hc3:lcmp X.m (a,i) (b,j) > 0:=by omega
      have hc4:decide (0<lcmp X.m (a,i) (b,j))=true:=decide_eq_true (by omega);generalize top X.m a=t at *;generalize top X.m b=t2 at *;generalize lcmp X.m (a,i) (b,j)=lc at *;clear QR0 QX0 QX HRc HKa HKb hha hhb hsm hsz hW hc ht;have HX10:=hi_ (HX.out.below HK10.out.D);obtain⟨⟨c0,c1,Dc0,Dc1⟩,⟨a0,a1,Da0,Da1⟩,⟨b0,b1,Db0,Db1⟩,⟨p0,p1,Dp0,Dp1⟩,⟨q0,q1,Dq0,Dq1⟩,y0,Dy0⟩:=HK10.out.cells HX10.out.blk;dsimp only[SMem.zero]at y0 Dy0;go_wp2_with fail
      refine wp_region_later (by kernel_rfl) (by kernel_rfl) ?_;repeat (go_big_quiet_step ((first|(go_at_call_of 14 (Value.int .i64 ((a:Nat):Int));with_reducible exact Calls.later_same (QH1.out _ ((HX10.out.below (Later.h _)).model)))|(go_at_call 14;with_reducible exact Calls.later_same (QH2.out _ ((HX10.out.below (Later.h _)).model)))|(go_at_call_of 15 (Value.int .i64 ((a:Nat):Int));with_reducible exact Calls.later_same (QT1.out _ ((HX10.out.below (Later.h _)).model)))|(go_at_call 15;with_reducible exact Calls.later_same (QT2.out _ ((HX10.out.below (Later.h _)).model)))|(go_at_call 16;exact Calls.later (QR.out _ ((HX10.out.below (Later.h _)).model))))))
      refine wq_ (fun dq=>?_);have HK11:=hi_ (HK10.out.below dq.h);clear Dc0 Dc1 Da0 Da1 Db0 Db1 Dp0 Dp1 Dq0 Dq1 Dy0 a0 a1 b0 b1 p0 p1 q0 q1 c0 c1 y0;clear HK10;generalize dq.w=w11 at *;clear dq;have HWk:=bt_ HW4 HK11.out.D;go_wp2_with fail
      go_ret
      exact⟨rfl,HWk.out⟩
    ·have hne:¬((top X.m a:Nat):Int)=((top X.m b:Nat):Int):=by omega
     have hne2:(((top X.m a:Nat):Int)==((top X.m b:Nat):Int))=false:=beq_eq_false_iff_ne.2 hne;have hne3:(((top X.m a:Nat):Int) != ((top X.m b:Nat):Int))=true:=bne_iff_ne.2 hne;generalize top X.m a=t at *;generalize top X.m b=t2 at *;clear QR0 QX0 HRc HKa HKb hha hhb hsm hsz hW ht;have HX10:=hi_ (HX.out.below HK10.out.D);obtain⟨⟨c0,c1,Dc0,Dc1⟩,⟨a0,a1,Da0,Da1⟩,⟨b0,b1,Db0,Db1⟩,⟨p0,p1,Dp0,Dp1⟩,⟨q0,q1,Dq0,Dq1⟩,y0,Dy0⟩:=HK10.out.cells HX10.out.blk;dsimp only[SMem.zero]at y0 Dy0;go_wp2_with fail
     refine wp_region_later (by kernel_rfl) (by kernel_rfl) ?_;repeat (go_big_quiet_step ((first|(go_at_call_of 14 (Value.int .i64 ((a:Nat):Int));with_reducible exact Calls.later_same (QH1.out _ ((HX10.out.below (Later.h _)).model)))|(go_at_call 14;with_reducible exact Calls.later_same (QH2.out _ ((HX10.out.below (Later.h _)).model)))|(go_at_call_of 15 (Value.int .i64 ((a:Nat):Int));with_reducible exact Calls.later_same (QT1.out _ ((HX10.out.below (Later.h _)).model)))|(go_at_call 15;with_reducible exact Calls.later_same (QT2.out _ ((HX10.out.below (Later.h _)).model)))|(go_at_call 16;exact Calls.later (QR.out _ ((HX10.out.below (Later.h _)).model))))))
     refine wq_ (fun dq=>?_);have HK11:=hi_ (HK10.out.below dq.h);clear Dc0 Dc1 Da0 Da1 Db0 Db1 Dp0 Dp1 Dq0 Dq1 Dy0 a0 a1 b0 b1 p0 p1 q0 q1 c0 c1 y0;clear HK10;generalize dq.w=w11 at *;clear dq;have HWk:=bt_ HW4 HK11.out.D;go_wp2_with fail
     go_ret
     exact⟨rfl,HWk.out⟩
end A
end
section
open Go.ChangeShapes Go.WideShapes Go.RowKit
namespace A
open H G R
theorem wf_u8{n:Int}(h:(Lit.int .u8 n).wf=true):0<=n/\n<=255:=by
 simp[Lit.wf,IntKind.min,IntKind.max,IntKind.signed,IntKind.bits]at h;omega
theorem wf_i8{n:Int}(h:(Lit.int .i8 n).wf=true):-128<=n/\n<=127:=by
 simp[Lit.wf,IntKind.min,IntKind.max,IntKind.signed,IntKind.bits]at h;omega
theorem getOne{l:List Value}{i:Nat}{v:Value}(h:(l.drop i).take 1=[v]):l[i]?=some v:=by
 have:=congrArg (fun l:List Value=>l[0]?) h;simpa[List.getElem?_take,List.getElem?_drop]using this
section
variable {H:Type} {enc:TypeId×Value->H} {W:World}
theorem u8_at{spare:Nat->Bool}{held:Bool}{n:Nat}{l:List Value}{i:Nat}{x:DataW H×List MemPlace}(h:DataW.trod enc Tryz.prog W 0 spare held n 5 ((l.drop i).take 1)=some x):∃k:Nat,k<256/\l[i]?=some (.int .u8 (k:Nat)):=by
 obtain⟨z,h1,_,h2⟩:=DataW.trod_int Tryz.underlying5 h;have h3:=wf_u8 h2;refine⟨z.toNat,by omega,?_⟩;rw[Int.toNat_of_nonneg h3.1];exact getOne h1
theorem i8_at{spare:Nat->Bool}{held:Bool}{n:Nat}{l:List Value}{i:Nat}{x:DataW H×List MemPlace}(h:DataW.trod enc Tryz.prog W 0 spare held n 63 ((l.drop i).take 1)=some x):∃z:Int,(-128<=z/\z<=127)/\l[i]?=some (.int .i8 z):=by
 obtain⟨z,h1,_,h2⟩:=DataW.trod_int Tryz.underlying63 h;exact⟨z,wf_i8 h2,getOne h1⟩
theorem str_at{spare:Nat->Bool}{held:Bool}{n:Nat}{l:List Value}{i:Nat}{x:DataW H×List MemPlace}(h:DataW.trod enc Tryz.prog W 0 spare held n 9 ((l.drop i).take 1)=some x):∃s:List UInt8,l[i]?=some (.string ⟨s.toArray⟩):=by
 obtain⟨s,h1,_,h2⟩:=DataW.trod_string Tryz.underlying9 h;exact⟨s.data.toList,by rw[getOne h1]⟩
theorem op_at{spare:Nat->Bool}{held:Bool}{n:Nat}{cs:List Value}{x:DataW H×List MemPlace}(h:DataW.trod enc Tryz.prog W 0 spare held n 65 cs=some x):∃o:G.Op,o.fits/\∀k,k<8->cs[k]?=(ocells o)[k]?:=by
 obtain⟨xs,m,_,_,hcs,hxl,hf⟩:=DataW.trod_struct Tryz.underlying65 h;have c1:Tryz.prog.cellsOf 5 = 1:=by kernel_rfl
 have c2:Tryz.prog.cellsOf 9 = 1:=by kernel_rfl
 have c3:Tryz.prog.cellsOf 63 = 1:=by kernel_rfl
 have hx8:xs.length=8:=hxl;have g0:DataW.trod enc Tryz.prog W 0 spare held m 5 ((cs.drop 0).take (Tryz.prog.cellsOf 5))=xs[0]?:=hf 0 _ rfl;have g1:DataW.trod enc Tryz.prog W 0 spare held m 5 ((cs.drop 1).take (Tryz.prog.cellsOf 5))=xs[1]?:=hf 1 _ rfl;have g2:DataW.trod enc Tryz.prog W 0 spare held m 5 ((cs.drop 2).take (Tryz.prog.cellsOf 5))=xs[2]?:=hf 2 _ rfl;have g3:DataW.trod enc Tryz.prog W 0 spare held m 5 ((cs.drop 3).take (Tryz.prog.cellsOf 5))=xs[3]?:=hf 3 _ rfl;have g4:DataW.trod enc Tryz.prog W 0 spare held m 9 ((cs.drop 4).take (Tryz.prog.cellsOf 9))=xs[4]?:=hf 4 _ rfl;have g5:DataW.trod enc Tryz.prog W 0 spare held m 9 ((cs.drop 5).take (Tryz.prog.cellsOf 9))=xs[5]?:=hf 5 _ rfl
 have g6:DataW.trod enc Tryz.prog W 0 spare held m 63 ((cs.drop 6).take (Tryz.prog.cellsOf 63))=xs[6]?:=hf 6 _ rfl;have g7:DataW.trod enc Tryz.prog W 0 spare held m 63 ((cs.drop 7).take (Tryz.prog.cellsOf 63))=xs[7]?:=hf 7 _ rfl;rw[c1,List.getElem?_eq_getElem (by omega)]at g0 g1 g2 g3;rw[c2,List.getElem?_eq_getElem (by omega)]at g4 g5;rw[c3,List.getElem?_eq_getElem (by omega)]at g6 g7;obtain⟨k0,b0,e0⟩:=u8_at g0;obtain⟨k1,b1,e1⟩:=u8_at g1;obtain⟨k2,b2,e2⟩:=u8_at g2;obtain⟨k3,b3,e3⟩:=u8_at g3;obtain⟨s4,e4⟩:=str_at g4;obtain⟨s5,e5⟩:=str_at g5;obtain⟨k6,b6,e6⟩:=i8_at g6;obtain⟨k7,b7,e7⟩:=i8_at g7;refine⟨⟨k0,k1,k2,k3,s4,s5,k6,k7⟩,⟨⟨b0,b1,b2,b3⟩,b6,b7⟩,fun k hk=>?_⟩
 match k,hk with
 |0,_=>exact e0
 |1,_=>exact e1
 |2,_=>exact e2
 |3,_=>exact e3
 |4,_=>exact e4
 |5,_=>exact e5
 |6,_=>exact e6
 |7,_=>exact e7
instance:Inhabited G.Op:=⟨⟨0,0,0,0,[],[],0,0⟩⟩
theorem open_ops{ao:Option Addr}{len cap:Nat}{d:DataW H}{p:List MemPlace}
  (h:∃fuel,DataW.trod enc Tryz.prog W 0 (fun _=>true) true fuel 22 (Value.slice ao len cap).cells.toList=some (d,p)) (hlt:∀x∈p,x.block<W.heap.size) :
  ∃os:List G.Op,len=os.length/\os.length<=9223372036854775807/\OpsAt W (.slice ao len cap) os/\∀o,o∈os->o.fits:=by
 obtain⟨fuel,hf⟩:=h;have c8:Tryz.prog.cellsOf 65 = 8:=by kernel_rfl
 rcases Go.Deep.open_slice Tryz.underlying22 hf with⟨hcs,_⟩|⟨a,len',cap',m,n,D,Pl,hcs,_,hl,hm,hmm,hx,hel⟩
 ·simp[Value.cells]at hcs
  obtain⟨rfl,rfl,rfl⟩:=hcs;exact⟨[],rfl,by simp,⟨none,0,rfl,fun h=>by simp at h⟩,fun o ho=>by cases ho⟩
 ·simp[Value.cells]at hcs
  obtain⟨rfl,rfl,rfl⟩:=hcs;simp only[if_true]at hmm;have hmm2:=hmm.symm;subst hmm2;rw[c8]at hx hel;have each:∀i,i<cap->∃o:G.Op,o.fits/\∀k,k<8->W.cell? ((a.add (i*8)).add k)=(ocells o)[k]?:=by
   intro i hi;obtain⟨cs,h1,h2⟩:=hel i hi;obtain⟨_,_,h3⟩:=World.cells?_some h1;obtain⟨o,ho,h4⟩:=op_at h2;exact⟨o,ho,fun k hk=>(h3 k hk).trans (h4 k hk)⟩
  obtain⟨f,hfn⟩:=Go.Deep.choose_lt each;have hlen:((List.range len).map f).length=len:=by simp
  unfold maxLen at hm;refine⟨(List.range len).map f,hlen.symm,by rw[hlen];omega,⟨some a,cap,by rw[hlen],fun hpos=>?_⟩,fun o ho=>?_⟩
  ·rw[hlen]at hpos
   obtain⟨b,off,spot⟩:=a;have h0:=(hfn 0 (by omega)).2 0 (by omega);have hspot:spot=none:=by
    have h1:W.cell? (((⟨b,off,spot⟩:Addr).add (0*8)).add 0)=some (.int .u8 ((f 0).kind:Nat)):=h0;simpa[Addr.add]using World.cell?_spot h1
   subst hspot;have hbW:b<W.heap.size:=by
    simp only[Prod.mk.injEq]at hx;refine hlt (.cell b off) ?_;rw[hx.2];exact List.mem_append_left _ (MemPlace.mem_row.2 ⟨0,by omega,by simp⟩)
   refine⟨b,off,rfl,hbW,fun j hj k hk=>?_⟩;rw[hlen]at hj;have h1:=(hfn j (by omega)).2 k hk;rw[Go.Deep.add_add]at h1;rw[show((⟨b,off,none⟩:Addr).add (j*8+k))=⟨b,off+j*8+k,none⟩ by simp[Addr.add,Nat.add_assoc]]at h1;rw[h1];simp
  ·obtain⟨i,hi,rfl⟩:=List.mem_map.1 ho
   exact(hfn i (by have:=List.mem_range.1 hi;omega)).1
theorem okWide_arr{P:Program}{r:Reach}{base n:Nat}{t e:TypeId}{v:Value}(ht:P.underlying t=some (.array n e))(h:Value.okWide P W r base t v):∃cs,v=.agg cs/\cs.size=P.cellsOf t:=by
 simp only[Value.okWide,ht]at h;obtain⟨cs,h1,h2,_⟩:=h;exact⟨cs,h1,h2⟩
theorem spot_at{spare:Nat->Bool}{held:Bool}{n:Nat}{l:List Value}{i:Nat}{x:DataW H×List MemPlace}(h:DataW.trod enc Tryz.prog W 0 spare held n 24 ((l.drop i).take 2)=some x):∃a b:Nat,a<256/\b<256/\l[i]?=some (.int .u8 (a:Nat))/\l[i+1]?=some (.int .u8 (b:Nat)):=by
 obtain⟨xs,m,_,_,hcl,hxl,hf⟩:=DataW.trod_array Tryz.underlying24 h;have c1:Tryz.prog.cellsOf 5 = 1:=by kernel_rfl
 have g0:DataW.trod enc Tryz.prog W 0 spare held m 5 ((((l.drop i).take 2).drop (0 * Tryz.prog.cellsOf 5)).take (Tryz.prog.cellsOf 5))=xs[0]?:=hf 0 (by omega);have g1:DataW.trod enc Tryz.prog W 0 spare held m 5 ((((l.drop i).take 2).drop (1 * Tryz.prog.cellsOf 5)).take (Tryz.prog.cellsOf 5))=xs[1]?:=hf 1 (by omega);rw[c1,List.getElem?_eq_getElem (by omega)]at g0 g1;obtain⟨a,ha,ea⟩:=u8_at g0;obtain⟨b,hb,eb⟩:=u8_at g1;refine⟨a,b,ha,hb,?_,?_⟩
 ·rw[<-ea];simp[List.getElem?_take,List.getElem?_drop]
 ·rw[<-eb];simp[List.getElem?_take,List.getElem?_drop]
theorem toList_inj{a b:Array Value}(h:a.toList=b.toList):a=b:=by cases a;cases b;simp at h;rw[h]
theorem open_spot{base:Nat}{v:Value}{d:DataW H}{p:List MemPlace}(hv:Value.okWide Tryz.prog W .any base 24 v)(h:DataW.Trod enc Tryz.prog W 0 (fun _=>true) true 24 v d p) :
  ∃a b:Nat,a<256/\b<256/\v=.agg #[.int .u8 (a:Nat),.int .u8 (b:Nat)]:=by
 obtain⟨cs,rfl,hs⟩:=okWide_arr Tryz.underlying24 hv;have c2:Tryz.prog.cellsOf 24 = 2:=by kernel_rfl
 rw[c2]at hs;obtain⟨fuel,hf⟩:=h;have hf2:DataW.trod enc Tryz.prog W 0 (fun _=>true) true fuel 24 ((cs.toList.drop 0).take 2)=some (d,p):=by
  rw[List.drop_zero,List.take_of_length_le (by simp;omega)];exact hf
 obtain⟨a,b,ha,hb,e0,e1⟩:=spot_at hf2;refine⟨a,b,ha,hb,?_⟩
 congr 1
 refine toList_inj ?_;refine List.ext_getElem? fun i=>?_
 match i with
 |0=>rw[e0];rfl
 |1=>rw[e1];rfl
 |i+2=>rw[List.getElem?_eq_none (by simp;omega),List.getElem?_eq_none (by simp)]
end
end A
end
end Go.Proofs.YtinphfpdfodkkaaGreatDoor
