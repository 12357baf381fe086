/- Texts. -/
import Derived.Test.YtinphfpdfodkkaaGreatDoorS23
import Derived.Test.YtinphfpdfodkkaaGreatDoorS15
import Derived.Test.YtinphfpdfodkkaaGreatDoorS22
set_option linter.unusedVariables false
set_option linter.unusedSimpArgs false
set_option maxHeartbeats 8000000
set_option maxRecDepth 100000
namespace Go.Proofs.YtinphfpdfodkkaaGreatDoor
section
open Go.RowKit Go.Sort
namespace A
open H G
theorem er_(T:am_)(zp zh zb:Int)(w:World)(hT:al_ w T)(hp1:-9223372036854775808<=zp)(hp2:zp<=9223372036854775807)(hh1:-9223372036854775808<=zh)(hh2:zh<=9223372036854775807)(hb1:-9223372036854775808<=zb)(hb2:zb<=9223372036854775807)
  (hn:T.ptr 1 zp=none\/T.ptr 1 zh=none\/(zb≠0/\T.ptr 1 zb=none)) :
  Calls Tryz.prog 60 #[.pointer (some ⟨T.tb,0,none⟩),.int .i64 zp,.int .i64 zh,.int .i64 zb] w fun e w'=>e=.returned (.tuple #[.slice none 0 0,.int .i64 6])/\Below w.heap.size w w':=by
 have QP:=hi_ (fun W (hb:Below w.heap.size w W)=>at_ T zp W (hT.below hb) hp1 hp2);have QH:=hi_ (fun W (hb:Below w.heap.size w W)=>at_ T zh W (hT.below hb) hh1 hh2);have QB:=hi_ (fun W (hb:Below w.heap.size w W)=>at_ T zb W (hT.below hb) hb1 hb2);generalize T.ptr 1 zp=P1 at *;generalize T.ptr 1 zh=P2 at *;generalize T.ptr 1 zb=P3 at *;have HB0:=hi_ (Below.refl w.heap.size w);have HN:=hi_ hn;clear hT hn
 go_enter Tryz.func60,Tryz.ntmps60
 cases P1 with
 |none=>
  go_wp2_with fail
  refine(QP.o _ HB0.o).mono ?_;rintro e w1 ⟨rfl,b1⟩;go_wp2_with fail
  exact bodyPost_ret (v:=.tuple #[.slice none 0 0,.int .i64 6]) (by simp[results,Tryz.results60,go_sem]) rfl ⟨rfl,b1⟩
 |some a1=>
  go_wp2_with fail
  refine(QP.o _ HB0.o).mono ?_;rintro e w1 ⟨rfl,b1⟩;have HB1:=hi_ b1;clear b1 QP
  cases P2 with
  |none=>
   go_wp2_with fail
   refine(QH.o _ HB1.o).mono ?_;rintro e w2 ⟨rfl,b2⟩;have HB2:=bt_ HB1 b2;clear b2;go_wp2_with fail
   exact bodyPost_ret (v:=.tuple #[.slice none 0 0,.int .i64 6]) (by simp[results,Tryz.results60,go_sem]) rfl ⟨rfl,HB2.o⟩
  |some a2=>
   go_wp2_with fail
   refine(QH.o _ HB1.o).mono ?_;rintro e w2 ⟨rfl,b2⟩;have HB2:=bt_ HB1 b2;clear b2 QH
   rcases HN.o with h|h|⟨h1,h2⟩
   ·cases h
   ·cases h
   subst h2;have hb0:(zb != 0)=true:=bne_iff_ne.2 h1;go_wp2_with fail
   refine(QB.o _ HB2.o).mono ?_;rintro e w3 ⟨rfl,b3⟩;have HB3:=bt_ HB2 b3;clear b3;go_wp2_with fail
   exact bodyPost_ret (v:=.tuple #[.slice none 0 0,.int .i64 6]) (by simp[results,Tryz.results60,go_sem]) rfl ⟨rfl,HB3.o⟩
theorem nb_(T:am_)(z:Int)(deep:Bool)(w:World)(hT:al_ w T)(hz:-9223372036854775808<=z)(hz2:z<=9223372036854775807)(hp:T.ptr 1 z=none) :
  Calls Tryz.prog 130 #[.pointer (some ⟨T.tb,0,none⟩),.int .i64 z,.bool deep] w fun e w'=>e=.returned (.tuple #[.int .i64 0,.int .i64 6])/\Below w.heap.size w w':=by
 have Q1:=hi_ (at_ T z w hT hz hz2);rw[hp]at Q1;clear hT hp
 go_enter Tryz.func130,Tryz.ntmps130
 go_wp2_with fail
 refine Q1.o.mono ?_;rintro e w2 ⟨rfl,hb2⟩;go_wp2_with fail
 exact bodyPost_ret (v:=.tuple #[.int .i64 0,.int .i64 6]) (by simp[results,Tryz.results130,go_sem]) rfl ⟨rfl,hb2⟩
theorem m2_(T:am_)(z:Int)(w:World)(hT:al_ w T)(hz:-9223372036854775808<=z)(hz2:z<=9223372036854775807)(hp:T.ptr 1 z=none) :
  Calls Tryz.prog 72 #[.pointer (some ⟨T.tb,0,none⟩),.int .i64 z] w fun e w'=>e=.returned (.int .i64 6)/\Below w.heap.size w w':=by
 have Q1:=hi_ (at_ T z w hT hz hz2);rw[hp]at Q1;clear hT hp
 go_enter Tryz.func72,Tryz.ntmps72
 go_wp2_with fail
 refine Q1.o.mono ?_;rintro e w2 ⟨rfl,hb2⟩;go_wp2_with fail
 go_ret
 exact⟨rfl,hb2⟩
end A
end
end Go.Proofs.YtinphfpdfodkkaaGreatDoor
