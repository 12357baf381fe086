/- Texts. -/
import Derived.Test.YtinphfpdfodkkaaGreatDoorS11
set_option linter.unusedVariables false
set_option linter.unusedSimpArgs false
set_option maxHeartbeats 8000000
set_option maxRecDepth 100000
namespace Go.Proofs.YtinphfpdfodkkaaGreatDoor
section
open Go.RowKit Go.Sort
namespace A
open H G
def aG_:G.Node:=⟨1,[],[],[],none,[],false⟩
theorem doc_wf:WF [aG_]:=by
 have h0:∀i,(nd [aG_] i).parent=none/\(nd [aG_] i).kids=[]:=by
  intro i
  cases i with
  |zero=>exact⟨rfl,rfl⟩
  |succ i=>exact⟨rfl,rfl⟩
 refine⟨⟨by simp,rfl,rfl,rfl⟩,fun i h1 h2=>?_,fun i p hp=>?_,fun p i hi=>?_,fun p=>?_,fun i p hp=>?_,fun i hi=>?_,fun i hi=>(h0 i).2⟩
 ·simp at h1;omega
 ·rw[(h0 i).1]at hp;cases hp
 ·rw[(h0 p).2]at hi;cases hi
 ·rw[(h0 p).2];exact List.nodup_nil
 ·rw[(h0 i).1]at hp;cases hp
 exact b6_ (h0 i).1
theorem c4_{i:Nat}(h:has [aG_] i=true):i=0:=by
 cases i with
 |zero=>rfl
 |succ i=>cases h
theorem om_{T:am_}(h1:∃av,T.slots=[aL_ aG_ av])(h2:T.frees=[])(h3:T.live=1)(h4:T.root=handle T.bs T.st 0):Fits T [aG_] (fun _=>0):=by
 obtain⟨av,hav⟩:=h1;have hs:T.sl 0=aL_ aG_ av:=by unfold am_.sl;rw[hav];rfl
 have hl:T.slots.length=1:=by rw[hav];rfl
 refine⟨doc_wf,?_,?_,?_,?_,?_,?_,?_,?_,?_,?_,?_,?_,?_,?_,?_,?_⟩
 ·intro i _;omega
 ·intro i _;rw[hs];rfl
 ·intro i hi;rw[c4_ hi,hs];rfl
 ·intro i hi;rw[c4_ hi,hs];rfl
 ·intro i hi;rw[c4_ hi,hs];rfl
 ·intro i hi;rw[c4_ hi,hs];rfl
 ·intro i hi;rw[c4_ hi,hs];rfl
 ·intro i hi;rw[c4_ hi,hs];rfl
 ·intro i hi;rw[c4_ hi,hs];rfl
 ·intro i hi;rw[c4_ hi,hs];rfl
 ·intro i hi;rw[c4_ hi,hs];rfl
 ·intro i j hi hj _;rw[c4_ hi,c4_ hj]
 ·intro s hs2 _;exact⟨0,rfl,by omega⟩
 ·rw[h2];exact⟨List.nodup_nil,fun s hs=>by cases hs⟩
 ·rw[h3];rfl
 rw[h4];rfl
theorem cells5{w:World}{g:Nat}{t:TypeId}{a0 a1 a2 a3 a4:Value}(h:Blk g #[a0,a1,a2,a3,a4] t w):(w.cell? ⟨g,0,none⟩=some a0/\w.cell? ⟨g,1,none⟩=some a1/\w.cell? ⟨g,2,none⟩=some a2/\w.cell? ⟨g,3,none⟩=some a3/\w.cell? ⟨g,4,none⟩=some a4)/\w.frozen? ⟨g,0,none⟩=false/\w.frozen? ⟨g,1,none⟩=false/\w.frozen? ⟨g,2,none⟩=false/\w.frozen? ⟨g,3,none⟩=false/\w.frozen? ⟨g,4,none⟩=false:=by
 obtain⟨hc,hf⟩:=ae_ h;exact⟨⟨hc 0,hc 1,hc 2,hc 3,hc 4⟩,hf 0 (by show 0<5;omega),hf 1 (by show 1<5;omega),hf 2 (by show 2<5;omega),hf 3 (by show 3<5;omega),hf 4 (by show 4<5;omega)⟩
theorem mem_root{w:World}{T:am_}(h:al_ w T)(z:Int):al_ (w.setCell ⟨T.tb,5,none⟩ (.int .i64 z)) { T with root:=z }:=by
 have hb:=h.blk;refine⟨?_,bk_ h.row hb (by decide) _ _,h.few,h.bb,bk_ h.free hb (by decide) _ _,fun r hr=>bk_ (h.attrs r hr) hb (by decide) _ _⟩;have h9:=hb.set 5 (.int .i64 z);unfold gO_ at h9;simp only[List.setIfInBounds_toArray,List.set_cons_zero,List.set_cons_succ]at h9;exact h9
theorem oz_(b s:Int)(w:World):Calls Tryz.prog 91 #[.agg #[.int .i64 b,.int .i64 s]] w fun e w'=>e=.returned (.agg #[.int .i64 b,.int .i64 s,.slice none 0 0,.slice none 0 0,.int .i64 0])/\Below w.heap.size w w':=by
 have hB:=((Below.refl w.heap.size w).alloc (nl_) (.cells #[.int .i64 b,.int .i64 s] 87)).alloc (by simp) (.cells #[.int .i64 b,.int .i64 s,.slice none 0 0,.slice none 0 0,.int .i64 0] 90)
 go_enter Tryz.func91,Tryz.ntmps91
 go_wp2_with fail
 exact bodyPost_ret (v:=.agg #[.int .i64 b,.int .i64 s,.slice none 0 0,.slice none 0 0,.int .i64 0]) (by simp[results,Tryz.results91,go_sem]) rfl ⟨rfl,hB⟩
theorem new2_(b s:Int)(w:World):Calls Tryz.prog 35 #[.agg #[.int .i64 b,.int .i64 s]] w fun e w'=>∃T,e=.returned (.pointer (some ⟨T.tb,0,none⟩))/\Below w.heap.size w w'/\ag_ w' T [aG_] (fun _=>0)/\w.heap.size<=T.B/\T.bs=b/\T.st=s/\T.slots.length=1/\w.heap.size<=T.g/\(∀k,T.freeV.ownBlock=some k->w.heap.size<=k)/\w.heap.size<=T.tb:=by
 have hB1:=(Below.refl w.heap.size w).alloc (nl_) (.cells #[.int .i64 b,.int .i64 s] 87);have QN:=hi_ (fun W=>oz_ b s W)
 go_enter Tryz.func35,Tryz.ntmps35
 go_wp2_with fail
 refine(QN.o _).mono ?_;rintro e w2 ⟨rfl,hb2⟩;have HB2:=hi_ (hB1.trans (hb2.mono hB1.size));have HT:ee_ (w2.alloc (.cells #[.int .i64 b,.int .i64 s,.slice none 0 0,.slice none 0 0,.int .i64 0,.int .i64 0] 92)) ⟨w2.heap.size,0,0,b,s,[],.slice none 0 0,[],0,0,w2.heap.size⟩ (.slice none 0 0):=
  ⟨Blk.new w2 _ _,World.ownsRow_nil _ _ _ _,Nat.zero_le _,nl_,World.ownsRow_nil _ _ _ _,fun r hr=>by cases hr⟩
 have HT:=hi_ HT;have hsz:w2.heap.size<(w2.alloc (.cells #[.int .i64 b,.int .i64 s,.slice none 0 0,.slice none 0 0,.int .i64 0,.int .i64 0] 92)).heap.size:=by simp
 have QA:=hi_ (add_ ⟨w2.heap.size,0,0,b,s,[],.slice none 0 0,[],0,0,w2.heap.size⟩ (.slice none 0 0) aG_ (.slice none 0 0) _ HT.o ⟨List.nodup_nil,fun s hs=>by cases hs⟩ (World.ownsRow_nil _ _ _ _) (by simp) (by simp) (by simp));clear hb2 QN;go_wp2_with fail
 refine QA.o.mono ?_;rintro e w3 ⟨g,cap,V',rfl,hf3,hm3,hg3,hv3⟩;obtain⟨T,hT⟩:∃T,T=am_.grow ⟨w2.heap.size,0,0,b,s,[],.slice none 0 0,[],0,0,w2.heap.size⟩ (aL_ aG_ (.slice none 0 0)) g cap V':=⟨_,rfl⟩;rw[<-hT]at hm3;have hTe:T=⟨w2.heap.size,g,cap,b,s,[aL_ aG_ (.slice none 0 0)],.slice none 0 0,[],1,0,w2.heap.size⟩:=hT;have htb:T.tb=w2.heap.size:=by rw[hTe]
 have hnx:handle b s (am_.next ⟨w2.heap.size,0,0,b,s,[],.slice none 0 0,[],0,0,w2.heap.size⟩)=handle b s 0:=rfl;rw[hnx];have hb3:Below w.heap.size w w3:=by
  refine(HB2.o.alloc HB2.o.size _).trans (hf3.below (B:=w.heap.size) (fun k hk=>?_) (Nat.le_trans HB2.o.size (Nat.le_of_lt hsz)))
  rcases hk with hk|hk|hk
  ·have hk:k=w2.heap.size:=hk
   rw[hk];exact HB2.o.size
  ·cases hk
  cases hk
 have HM:=hi_ (mem_root hm3 (handle b s 0));have HB3:=hi_ hb3;have HTe:=hi_ hTe;have hg3':w.heap.size<=g:=by
  rcases hg3 with h|h
  ·cases h
  exact Nat.le_trans HB2.o.size (Nat.le_trans (Nat.le_of_lt hsz) h)
 have HG:=hi_ hg3';have hblk:=hm3.blk;unfold gO_ at hblk;rw[htb]at hblk;obtain⟨hc,hf⟩:=ae_ hblk;have c5:w3.cell? ⟨w2.heap.size,5,none⟩=some (.int .i64 T.root):=hc 5;have f5:=hf 5 (by show 5<6;omega);have htl:=hblk.lt;clear hblk hc hf hb3 hf3 hm3 hT hTe hg3 hv3 hg3';go_wp2_with fail
 go_ret
 have hT2:=HTe.o;refine⟨{ T with root:=handle b s 0 },by show _=Ending.returned (.pointer (some ⟨T.tb,0,none⟩));rw[htb];rfl,(HB3.o.setCell (p:=⟨w2.heap.size,5,none⟩) HB2.o.size _),⟨by rw[<-htb];exact HM.o,?_⟩,by show _<=T.B;rw[hT2];exact HB2.o.size,by show T.bs=b;rw[hT2],by show T.st=s;rw[hT2],by show T.slots.length=1;rw[hT2];rfl,by show _<=T.g;rw[hT2];exact HG.o,fun k hk=>?_,by show _<=T.tb;rw[htb];exact HB2.o.size⟩
 ·exact om_ ⟨.slice none 0 0,by show T.slots=_;rw[hT2]⟩ (by show T.frees=[];rw[hT2]) (by show T.live=1;rw[hT2]) (by show handle b s 0=handle T.bs T.st 0;rw[hT2])
 have hk:T.freeV.ownBlock=some k:=hk;rw[hT2]at hk
 cases hk
end A
end
end Go.Proofs.YtinphfpdfodkkaaGreatDoor
