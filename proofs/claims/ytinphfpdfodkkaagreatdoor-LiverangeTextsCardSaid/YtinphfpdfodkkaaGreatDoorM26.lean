/- Texts of the proof. -/
import Derived.Test.YtinphfpdfodkkaaGreatDoorM21
import Derived.Test.YtinphfpdfodkkaaGreatDoorM16
set_option linter.unusedVariables false
set_option linter.unusedSimpArgs false
set_option maxHeartbeats 8000000
set_option maxRecDepth 100000
namespace Go.Proofs.YtinphfpdfodkkaaGreatDoor
section
open Go.RowKit Go.Sort
namespace R
open H G A
theorem mNew(w:World):Calls Tryz.prog 93 #[] w fun e w'=>∃M,e=.returned (.pointer (some ⟨M.mb,0,none⟩))/\Below w.heap.size w w'/\ModelMem w' M/\M.m=[docNode]/\w.heap.size<=M.B/\∀k,M.foot k->w.heap.size<=k:=by
 have HB:=hi_ ((((Below.refl w.heap.size w).alloc (Nat.le_refl _) (.cells #[.int .i64 1,.string ⟨#[]⟩,.slice none 0 0,.string ⟨#[]⟩,.int .i64 (-1),.slice none 0 0,.bool false] 105))).alloc (by simp) (.cells #[.slice (some ⟨w.heap.size,0,none⟩) 1 1] 102));have HB1:=hi_ (Blk.new (w.alloc (.cells #[.int .i64 1,.string ⟨#[]⟩,.slice none 0 0,.string ⟨#[]⟩,.int .i64 (-1),.slice none 0 0,.bool false] 105)) #[.slice (some ⟨w.heap.size,0,none⟩) 1 1] 102)
 have HO:Hid (World.ownsRow ((w.alloc (.cells #[.int .i64 1,.string ⟨#[]⟩,.slice none 0 0,.string ⟨#[]⟩,.int .i64 (-1),.slice none 0 0,.bool false] 105)).alloc (.cells #[.slice (some ⟨w.heap.size,0,none⟩) 1 1] 102)) w.heap.size 105 7 (.slice (some ⟨w.heap.size,0,none⟩) 1 1) 1 (ncells ⟨docNode,.slice none 0 0,.slice none 0 0⟩)):=hi_ (by
  have h1:=World.ownsRow_lit (e:=105) (base:=w.heap.size) (size:=7) w #[.int .i64 1,.string ⟨#[]⟩,.slice none 0 0,.string ⟨#[]⟩,.int .i64 (-1),.slice none 0 0,.bool false] 1 (Nat.le_refl _) (by unfold maxLen;omega) (by simp);simp only[List.size_toArray]at h1;exact World.ownsRow.alloc (show World.ownsRow _ w.heap.size _ 7 (.slice (some ⟨w.heap.size,0,none⟩) 1 1) 1 [.int .i64 1,.string ⟨#[]⟩,.slice none 0 0,.string ⟨#[]⟩,.int .i64 (-1),.slice none 0 0,.bool false]from by simpa using h1) _)
 go_enter Tryz.func93,Tryz.ntmps93
 go_wp2_with fail
 go_ret
 refine⟨⟨w.heap.size+1,w.heap.size,1,[⟨docNode,.slice none 0 0,.slice none 0 0⟩],w.heap.size⟩,rfl,HB.out,⟨?_,?_,by simp,by simp,fun x hx=>?_,fun x hx=>?_,fun i j hi hj hne=>?_,fun i j hi hj hne=>?_⟩,rfl,Nat.le_refl _,fun k hk=>?_⟩
 ·have h1:=HB1.out
  rw[World.size_alloc]at h1;exact h1
 ·exact HO.out
 ·rw[List.mem_singleton.1 hx];exact World.ownsRow_nil _ _ _ _
 ·rw[List.mem_singleton.1 hx];exact World.ownsRow_nil _ _ _ _
 ·have hi:i<1:=hi
  have hj:j<1:=hj;omega
 ·have hi:i<1:=hi
  have hj:j<1:=hj;omega
 ·rcases hk with e|e|⟨x,hx,e⟩
  ·rw[e];show w.heap.size<=w.heap.size+1;omega
  ·rw[e];exact Nat.le_refl _
  ·rw[List.mem_singleton.1 hx]at e
   rcases e with e|e
   ·have e:(Value.slice none 0 0).ownBlock=some k:=e
    simp[Value.ownBlock]at e
   ·have e:(Value.slice none 0 0).ownBlock=some k:=e
    simp[Value.ownBlock]at e
end R
end
end Go.Proofs.YtinphfpdfodkkaaGreatDoor
