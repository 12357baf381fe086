/- Texts. -/
import Derived.Test.YtinphfpdfodkkaaGreatDoorS06
import Derived.Test.YtinphfpdfodkkaaGreatDoorS05
import Derived.Maps.Own
import Derived.Maps.Views
set_option linter.unusedVariables false
set_option linter.unusedSimpArgs false
set_option maxHeartbeats 8000000
set_option maxRecDepth 100000
namespace Go.Proofs.YtinphfpdfodkkaaGreatDoor
section
open Go.RowKit Go.Sort
namespace A
open H G
theorem gz_{P:Program}{e:TypeId}(he:P.underlying e=some .bool){v:Value}{b:Bool}{ps:List MemPlace}(h:plainElem (H:=Nat) P e v=some (.lit (.bool b),ps)):v=.bool b:=by
 unfold plainElem at h;rw[he]at h
 cases v<;>simp at h
 rw[h.1]
def ce_(w:World)(b n:Nat)(S:List (List UInt8)):Prop:=
 ∃D:DataW Nat,w.ownsMap Tryz.prog 9 (plainElem Tryz.prog 4) b n D/\Maps.IsMap D/\∀k,D.atKey (.string k) (.lit (.bool false))=.lit (.bool (S.contains k))
theorem h3_(k:List UInt8)(hk:k.length<=maxLen):keyOf Tryz.prog 9 (.string ⟨k.toArray⟩)=some (.string k):=by
 have:=WideMaps.keyOf_string_mk (P:=Tryz.prog) (k:=9) Tryz.underlying9 (s:=⟨k.toArray⟩) (by rw[H.aN_];exact hk);simpa using this
theorem ce_.made(w:World):ce_ (w.alloc (.map #[] 0)) w.heap.size 0 []:=
 ⟨.map [],World.ownsMap_made w _ _ _,⟨[],rfl⟩,fun k=>rfl⟩
theorem ce_.lookup{w:World}{b n:Nat}{S:List (List UInt8)}(h:ce_ w b n S)(k:List UInt8)(hk:k.length<=maxLen):(Instr.lookup 225 (.map (some b)) (.string ⟨k.toArray⟩) false).run Tryz.prog w=.ok (.bool (S.contains k)) w:=by
 obtain⟨D,hm,_,hD⟩:=h;obtain⟨v,ps,hrun,hv⟩:=hm.lookup (Maps.string_keyed Tryz.underlying9) Tryz.underlying225 (Tryz.zeroValue4 w) (plainElem_bool Tryz.underlying4 false) (h3_ k hk);rw[hD k]at hv;rw[gz_ Tryz.underlying4 hv]at hrun;exact hrun
theorem ce_.update{w:World}{b n:Nat}{S:List (List UInt8)}(h:ce_ w b n S)(k:List UInt8)(hk:k.length<=maxLen)(hn:n<maxLen) :
  ∃w',(Instr.mapUpdate 225 (.map (some b)) (.string ⟨k.toArray⟩) (.bool true)).run Tryz.prog w=.ok () w'/\ce_ w' b (n+1) (S++[k])/\w.grownBy w' (some b):=by
 obtain⟨D,hm,hI,hD⟩:=h;obtain⟨w',hrun,h1,h2⟩:=hm.update (Maps.string_keyed Tryz.underlying9) Tryz.underlying225 hn (h3_ k hk) (plainElem_bool Tryz.underlying4 true);refine⟨w',hrun,⟨_,h1,?_,fun k'=>?_⟩,h2⟩
 ·obtain⟨es,rfl⟩:=hI;exact⟨_,rfl⟩
 by_cases e:k'=k
 ·subst e
  rw[Maps.atKey_put_same hI (by trivial)];simp
 rw[Maps.atKey_put_other (fun h=>e (by injection h)),hD k'];simp[e]
theorem ce_.kept{w w':World}{row:Option Nat}{b n:Nat}{S:List (List UInt8)}(h:ce_ w b n S)(hg:w.grownBy w' row)(hne:some b≠row):ce_ w' b n S:=by
 obtain⟨D,h1,h2,h3⟩:=h;exact⟨D,h1.kept hg hne,h2,h3⟩
theorem ce_.below{w w':World}{b n:Nat}{S:List (List UInt8)}(h:ce_ w b n S)(hb:Below w.heap.size w w'):ce_ w' b n S:=h.kept (row:=none) ⟨hb.os,hb.tape,hb.output,hb.size,fun k hk _=>hb.block k hk⟩ (by simp)
theorem attrs_(v:Value)(l:List (List UInt8×List UInt8))(w:World)(h:aw_ w v l)(hl:l.length<=1000)(hs:∀a,a∈l->a.1.length<=100000)(hT:T.Tabs w) :
  Calls Tryz.prog 107 #[v] w fun e w'=>e=.returned (.bool (aW_ l []))/\Below w.heap.size w w':=by
 obtain⟨ao,cap,hv⟩:=aw_.slice h;subst hv;have HM0:=hi_ (ce_.made w);have HT:=hi_ hT;have HA:=hi_ h;have HS:=hi_ hs;have HB0:=hi_ ((Below.refl w.heap.size w).alloc (nl_) (.map #[] 0));have QN:=hi_ (fun(s:List UInt8) (hs:s.length<=100000) W (hW:Below w.heap.size w W)=>N.attrName_ s W hs (hT.below hW));have HR:Hd (aW_ l []=aW_ l []):=hi_ rfl;clear h hs hT
 go_enter Tryz.func107,Tryz.ntmps107
 have hmm:=@run_makeMap Tryz.prog;go_wp2_with fail
 go_loopw [9] (fun v9 wr=>∃i:Nat,v9=.int .i64 i/\i<=l.length/\Below w.heap.size w wr/\ce_ wr w.heap.size i ((l.take i).map (·.1))/\Hd (aW_ l []=aW_ (l.drop i) ((l.take i).map (·.1)))) (fun v9 _=>l.length-(a2_ v9).toNat)
 case atStart=>exact⟨0,rfl,Nat.zero_le _,HB0.o,HM0.o,hi_ rfl⟩
 obtain⟨i,rfl,hi,hB,hN,HI⟩:=hrel;have HBr:=hi_ hB;have HN:=hi_ hN;have hlw:=hB.size;clear hB hN HM0 HB0
 by_cases hil:i<l.length
 ·have hiI:(i:Int)<(l.length:Int):=by omega
  obtain⟨g,cap',hv,hgl⟩:=(HA.o.form).resolve_left (fun h=>by have:=h.2;rw[this]at hil;simp at hil);injection hv with e1 _ e3
  subst e1 e3;have hA2:aw_ wr (.slice (some ⟨g,0,none⟩) l.length cap) l:=own_below HA.o HBr.o;have hc0:=(ab_.cell ar_ hA2 hil (k:=0) (by omega)).1;have hc1:=(ab_.cell ar_ hA2 hil (k:=1) (by omega)).1;have hgl2:g<wr.heap.size:=by omega
  have hmem:=List.getElem_mem hil;have hlen:=HS.o _ hmem;have HD:Hd (l.drop i=l[i] :: l.drop (i+1)):=hi_ (List.drop_eq_getElem_cons hil);have HTk:Hd ((l.take (i+1)).map (·.1)=(l.take i).map (·.1)++[l[i].1]):=hi_ (by rw[List.take_succ_eq_append_getElem hil,List.map_append];rfl);generalize l[i]=a at *;obtain⟨nm,vl⟩:=a;have k0:wr.cell? ⟨g,i*2,none⟩=some (.string ⟨nm.toArray⟩):=hc0;have k1:wr.cell? ⟨g,i*2+1,none⟩=some (.string ⟨vl.toArray⟩):=hc1;have HB2:=hi_ (HBr.o.alloc HBr.o.size (.cells #[.string ⟨nm.toArray⟩,.string ⟨vl.toArray⟩] 142));have HN2:=hi_ (HN.o.below ((Below.refl wr.heap.size wr).alloc (nl_) (.cells #[.string ⟨nm.toArray⟩,.string ⟨vl.toArray⟩] 142)))
  have HX2:=hi_ (show Blk wr.heap.size #[.string ⟨nm.toArray⟩,.string ⟨vl.toArray⟩] 142 (wr.alloc (.cells #[.string ⟨nm.toArray⟩,.string ⟨vl.toArray⟩] 142))from Blk.new _ _ _);have Q1:=hi_ (QN.o nm hlen _ HB2.o);have HI2:Hd (aW_ l []=(bE_ nm && !((l.take i).map (·.1)).contains nm && aW_ (l.drop (i+1)) ((l.take i).map (·.1)++[nm]))):=hi_ (by rw[HI.o,HD.o];rfl);generalize (l.take i).map (·.1)=S at *;generalize bE_ nm=v1 at *;clear hc0 hc1 hA2 HI HD hmem;go_wp2_with fail
  refine Q1.o.mono ?_;rintro e w3 ⟨rfl,hb3⟩;have HB3:=bt_ HB2 hb3;have HN3:=hi_ (HN2.o.below hb3);obtain⟨hx,_⟩:=ae_ (HX2.o.below hb3);have x0:w3.cell? ⟨wr.heap.size,0,none⟩=some (.string ⟨nm.toArray⟩):=hx 0;have hl3:=(HX2.o.below hb3).lt;clear hb3 hx
  cases v1 with
  |false=>
   have HF:Hd (aW_ l []=false):=hi_ (by rw[HI2.o];rfl);go_wp2_with fail
   go_ret
   exact⟨H.ap_ HF.o.symm,HB3.o⟩
  |true=>
   have hrun:=HN3.o.lookup nm (by unfold maxLen;omega)
   cases hsc:S.contains nm with
   |true=>
    have HF:Hd (aW_ l []=false):=hi_ (by rw[HI2.o,hsc];rfl);rw[hsc]at hrun;go_wp2_with fail
    go_ret
    exact⟨H.ap_ HF.o.symm,HB3.o⟩
   |false=>
    rw[hsc]at hrun;have HI3:Hd (aW_ l []=aW_ (l.drop (i+1)) (S++[nm])):=hi_ (by rw[HI2.o,hsc];rfl);obtain⟨w4,hup,hN4,hg4⟩:=HN3.o.update nm (by unfold maxLen;omega) (by unfold maxLen;omega);have HB4:=hi_ (HB3.o.grown hg4 HB3.o.size (fun k hk=>by injection hk with hk;rw[<-hk];exact nl_));have HN4:=hi_ hN4;clear hg4 hN4 hsc;go_wp2_with fail
    go_roundw
    case rel=>exact⟨i+1,by go_num,by omega,HB4.o,by rw[HTk.o];exact HN4.o,by rw[HTk.o];exact HI3⟩
    simp[a2_];omega
 have hiI:¬(i:Int)<(l.length:Int):=by omega
 have HF:Hd (aW_ l []=true):=hi_ (by rw[HI.o,List.drop_eq_nil_of_le (by omega)];rfl);go_wp2_with fail
 go_ret
 exact⟨H.ap_ HF.o.symm,HBr.o⟩
end A
end
end Go.Proofs.YtinphfpdfodkkaaGreatDoor
