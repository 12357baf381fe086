/- Texts. -/
import Derived.Test.YtinphfpdfodkkaaGreatDoorP01
set_option linter.unusedVariables false
set_option linter.unusedSimpArgs false
set_option maxHeartbeats 8000000
set_option maxRecDepth 100000
namespace Go.Proofs.YtinphfpdfodkkaaGreatDoor
section
open Go.RowKit
namespace T
theorem sl_snoc(L:List (List UInt8))(f k:Nat)(hf:f<=k)(hk:k<L.length):U.sl L f (k+1)=U.sl L f k++L.getD k []:=by
 unfold U.sl;rw[List.take_succ_eq_append_getElem hk,List.drop_append_of_le_length (by rw[List.length_take];omega),List.flatten_append];simp[List.getD,hk]
theorem hW_(L:List (List UInt8))(n:Nat):(L.drop n).flatten.length<=L.flatten.length:=by
 have e:L.flatten=(L.take n).flatten++(L.drop n).flatten:=by rw[<-List.flatten_append,List.take_append_drop]
 rw[e,List.length_append];omega
theorem hV_(L:List (List UInt8))(n:Nat):(L.take n).flatten.length<=L.flatten.length:=by
 have e:L.flatten=(L.take n).flatten++(L.drop n).flatten:=by rw[<-List.flatten_append,List.take_append_drop]
 rw[e,List.length_append];omega
theorem sl_length(L:List (List UInt8))(f k:Nat):(U.sl L f k).length<=L.flatten.length:=by
 unfold U.sl;exact Nat.le_trans (hW_ _ _) (hV_ _ _)
def StrRow(w:World)(ao:Option Addr)(L:List (List UInt8)):Prop:=
 0<L.length->∃g,ao=some ⟨g,0,none⟩/\g<w.heap.size/\∀j,j<L.length->w.cell? ⟨g,j,none⟩=some (.string ⟨(L.getD j []).toArray⟩)
theorem StrRow.below{w w':World}{ao:Option Addr}{L:List (List UInt8)}(h:StrRow w ao L)(b:Below w.heap.size w w'):StrRow w' ao L:=fun hl=>by
 obtain⟨g,e,hg,hc⟩:=h hl;exact⟨g,e,Nat.lt_of_lt_of_le hg b.size,fun j hj=>(b.cell (p:=⟨g,j,none⟩) hg).trans (hc j hj)⟩
theorem if_(a b:List UInt8):(⟨a.toArray⟩:ByteArray)++⟨b.toArray⟩=⟨(a++b).toArray⟩:=by
 have h:((⟨a.toArray⟩:ByteArray)++⟨b.toArray⟩).data=a.toArray++b.toArray:=by
  simp[ByteArray.data_append]
 cases hx:(⟨a.toArray⟩:ByteArray)++⟨b.toArray⟩ with
 |mk d=>rw[hx]at h;simp at h;rw[h]
theorem refJoin(ao:Option Addr)(cap:Nat)(L:List (List UInt8))(a b:Int)(f:Nat)(w:World)(hL:L.flatten.length<=1000000)(hN:L.length<=1000000)(hr:StrRow w ao L)(hmx:max a 0=(f:Int))(hb:b<=L.length) :
  Calls Tryz.prog 56 #[.slice ao L.length cap,.int .i64 a,.int .i64 b] w fun e w'=>e=.returned (.string ⟨(U.sl L f b.toNat).toArray⟩)/\w=w':=by
 have HR:=hi_ hr;clear hr
 go_enter Tryz.func56,Tryz.ntmps56
 go_wp2_with fail
 go_loop [7,8] (fun o i=>∃k:Nat,f<=k/\(k<=L.length\/k=f)/\(k<=b.toNat\/k=f)/\i=.int .i64 k/\o=.string ⟨(U.sl L f k).toArray⟩) (fun _ i=>L.length-(Go.RowKit.intOf i).toNat)
 case atStart=>exact⟨f,nl_,.inr rfl,.inr rfl,rfl,by rw[U.fk_ _ _ _ (nl_)]⟩
 case round=>
  obtain⟨k,hfk,hk1,hk2,rfl,rfl⟩:=hrel;have hl1:=sl_length L f k
  by_cases hkb:(k:Int)<b
  ·have hkL:k<L.length:=by omega
   obtain⟨g,rfl,hg,hc⟩:=HR.out (by omega);have hcell:=hc k hkL;have HS:=hi_ (sl_snoc L f k hfk hkL);have hl2:=sl_length L f (k+1);rw[HS.out,List.length_append]at hl2;clear hc;have hab:=if_ (U.sl L f k) (L.getD k []);have HAB:=hi_ hab;clear hab;generalize L.getD k []=c at *;have z1:=aM_ (U.sl L f k);have z2:=aM_ c;have zz:((⟨(U.sl L f k).toArray⟩:ByteArray).size:Int)+((⟨c.toArray⟩:ByteArray).size:Int)<=1000000:=by omega
   clear z1 z2;generalize U.sl L f k=q at *;go_wp2_with fail
   go_round
   case rel=>exact⟨k+1,by omega,.inl (by omega),.inl (by omega),by go_num,by rw[HS.out];simp only[HAB.out]⟩
   case measure=>simp[Go.RowKit.intOf];omega
  ·have hkb':b<=(k:Int):=by omega
   have HE:=hi_ (show U.sl L f k=U.sl L f b.toNat by
    rcases hk2 with h|h
    ·rw[show b.toNat=k by omega]
    ·rw[h,U.fk_ _ _ _ (nl_),U.fk_ _ _ _ (by omega)])
   clear hkb;go_wp2_with fail
   go_ret
   exact⟨in_ (by rw[HE.out]),rfl⟩
end T
end
end Go.Proofs.YtinphfpdfodkkaaGreatDoor
