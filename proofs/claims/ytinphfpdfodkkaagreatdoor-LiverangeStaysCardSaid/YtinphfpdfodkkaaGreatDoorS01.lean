/- Texts. -/
import Derived.Test.YtinphfpdfodkkaaGreatDoorS00
import Derived.Test.YtinphfpdfodkkaaGreatDoorSS
import Derived.WalkKit
import Derived.Lib.RuneBytes
import Derived.Lib.RuneCount
import Derived.BigCall
import Derived.Shelf.Strings.BuilderK
import Derived.Lib.Hide
import Derived.Laws.IdiomStrings
import Derived.BigQuiet
import Derived.Deep.QuietTactic
import Derived.Laws.BitsLemmas
import Derived.Below
import Derived.OneCell
import Derived.Deep.AppendLies
import Derived.Laws.IdiomCopy
import Derived.Lib.AppendStr
import Derived.Lib.BufferRead
import Derived.Maps.AppendAt
import Derived.WalkSpells
set_option linter.unusedVariables false
set_option linter.unusedSimpArgs false
set_option maxHeartbeats 8000000
set_option maxRecDepth 100000
namespace Go.Proofs.YtinphfpdfodkkaaGreatDoor
section
namespace U
def rng(l:List UInt8)(i lo hi:Nat):Bool:=decide (i<l.length/\lo<=(l.getD i 0).toNat/\(l.getD i 0).toNat<=hi)
def bR_(l:List UInt8):Bool:=
 if (l.getD 0 0).toNat=224 then rng l 1 160 191
 else if (l.getD 0 0).toNat=237 then rng l 1 128 159
 else if (l.getD 0 0).toNat=240 then rng l 1 144 191
 else if (l.getD 0 0).toNat=244 then rng l 1 128 143
 else rng l 1 128 191
def sz(l:List UInt8):Nat:=
 if rng l 0 0 127 then 1
 else if rng l 0 194 223 && rng l 1 128 191 then 2
 else if rng l 0 224 239 && (bR_ l && rng l 2 128 191)then 3
 else if rng l 0 240 244 && (bR_ l && (rng l 2 128 191 && rng l 3 128 191))then 4
 else 0
theorem lE_(l:List UInt8):sz l<=4:=by
 unfold sz
 repeat' split
 all_goals omega
theorem fv_(l:List UInt8):sz l<=l.length:=by
 unfold sz
 repeat' split
 all_goals simp_all [rng]
 all_goals omega
def adv(l:List UInt8):Nat:=if sz l=0 then 1 else sz l
def a7_(l:List UInt8):List UInt8:=if sz l=0 then[239,191,189]else l.take (sz l)
theorem cs_(l:List UInt8):1<=adv l:=by unfold adv;split<;>omega
theorem hf_(l:List UInt8)(h:l≠[]):adv l<=l.length:=by
 have:=fv_ l;have:0<l.length:=List.length_pos_iff.2 h;unfold adv
 split<;>omega
def chunks:Nat->List UInt8->List (List UInt8)
 |0,_=>[]
 |n+1,l=>if l=[] then[]else a7_ l :: chunks n (l.drop (adv l))
def pts(l:List UInt8):List (List UInt8):=chunks l.length l
def rep(l:List UInt8):List UInt8:=(pts l).flatten
theorem gp_:∀(n m:Nat) (l:List UInt8),l.length<=n->l.length<=m->chunks n l=chunks m l
 |0,0,_,_,_=>rfl
 |0,m+1,l,h,_=>by
  have:l=[]:=List.eq_nil_of_length_eq_zero (by omega);simp[chunks,this]
 |n+1,0,l,_,h=>by
  have:l=[]:=List.eq_nil_of_length_eq_zero (by omega);simp[chunks,this]
 |n+1,m+1,l,h1,h2=>by
  unfold chunks
  by_cases hl:l=[]
  ·simp[hl]
  have ha:=cs_ l;have hlen:0<l.length:=List.length_pos_iff.2 hl;rw[if_neg hl,if_neg hl,gp_ n m (l.drop (adv l)) (by simp;omega) (by simp;omega)]
theorem i4_:pts []=[]:=rfl
theorem d1_(l:List UInt8)(h:l≠[]):pts l=a7_ l :: pts (l.drop (adv l)):=by
 have hl:0<l.length:=List.length_pos_iff.2 h;have ha:=cs_ l;unfold pts;obtain⟨n,hn⟩:∃n,l.length=n+1:=⟨l.length-1,by omega⟩;rw[hn]
 conv=>lhs;unfold chunks
 rw[if_neg h,gp_ n (l.drop (adv l)).length (l.drop (adv l)) (by simp;omega) (by simp)]
theorem dM_:rep []=[]:=rfl
theorem c7_(l:List UInt8)(h:l≠[]):rep l=a7_ l++rep (l.drop (adv l)):=by
 unfold rep;rw[d1_ l h];rfl
theorem g9_{n i:Nat}{l l':List UInt8}(hi:i<n)(h:l'.take n=l.take n):l'.getD i 0=l.getD i 0:=by
 have h1:(l'.take n)[i]?=(l.take n)[i]?:=by rw[h]
 rw[List.getElem?_take_of_lt hi,List.getElem?_take_of_lt hi]at h1;simp[List.getD,h1]
theorem cF_{n i:Nat}{l l':List UInt8}(hi:i<n)(h:l'.take n=l.take n)(hn:n<=l.length)(hn':n<=l'.length)(lo hi':Nat):rng l' i lo hi'=rng l i lo hi':=by
 unfold rng;rw[g9_ hi h];have a:i<l.length:=by omega
 have b:i<l'.length:=by omega
 simp[a,b]
theorem fi_{n:Nat}{l l':List UInt8}(hi:1<n)(h:l'.take n=l.take n)(hn:n<=l.length)(hn':n<=l'.length):bR_ l'=bR_ l:=by
 unfold bR_;rw[g9_ (by omega:0<n) h];simp only[cF_ hi h hn hn']
theorem nG_(l l':List UInt8)(h:sz l≠0)(ht:l'.take (sz l)=l.take (sz l))(hl:sz l<=l'.length):sz l'=sz l:=by
 have hle:=fv_ l;generalize hn:sz l=n at *;have h0:0<n:=by omega
 have r0:=fun lo hi=>cF_ h0 ht hle hl lo hi;unfold sz at hn ⊢
 split at hn
 ·subst hn;rename_i a;rw[r0,if_pos a]
 rename_i a0
 split at hn
 ·subst hn;rename_i a
  rw[r0,if_neg a0,r0,cF_ (by omega:1<2) ht hle hl,if_pos a]
 rename_i a1
 split at hn
 ·subst hn;rename_i a
  rw[r0,if_neg a0,r0,cF_ (by omega:1<3) ht hle hl,if_neg a1,r0,fi_ (by omega:1<3) ht hle hl,cF_ (by omega:2<3) ht hle hl,if_pos a]
 rename_i a2
 split at hn
 ·subst hn;rename_i a
  rw[r0,if_neg a0,r0,cF_ (by omega:1<4) ht hle hl,if_neg a1,r0,fi_ (by omega:1<4) ht hle hl,cF_ (by omega:2<4) ht hle hl,if_neg a2,r0,cF_ (by omega:3<4) ht hle hl,if_pos a]
 omega
theorem gx_(l r:List UInt8)(h:sz l≠0):sz (l.take (sz l)++r)=sz l:=by
 have hle:=fv_ l;exact nG_ l (l.take (sz l)++r) h (by rw[List.take_append_of_le_length (by rw[List.length_take];omega),List.take_take,Nat.min_self]) (by rw[List.length_append,List.length_take];omega)
theorem sz_fffd(r:List UInt8):sz (239 :: 191 :: 189 :: r)=3:=by simp[sz,rng,bR_]
theorem dV_(l:List UInt8)(_h:l≠[]):1<=(a7_ l).length/\(a7_ l).length<=4:=by
 have:=fv_ l;have:=lE_ l;unfold a7_
 split
 ·simp
 simp;omega
theorem jH_(l r:List UInt8)(_h:l≠[]):sz (a7_ l++r)=(a7_ l).length:=by
 have hle:=fv_ l;unfold a7_
 split
 ·simp[sz_fffd]
 rename_i h0
 rw[gx_ l r h0];simp;omega
theorem e1_(l r:List UInt8)(h:l≠[]):adv (a7_ l++r)=(a7_ l).length:=by
 have:=(dV_ l h).1;unfold adv;rw[jH_ l r h,if_neg (by omega)]
theorem gq_(l r:List UInt8)(h:l≠[]):a7_ (a7_ l++r)=a7_ l:=by
 have:=(dV_ l h).1;generalize hc:a7_ l=c at *;have e:=jH_ l r h;rw[hc]at e;unfold a7_;rw[e,if_neg (by omega)];simp
theorem dN_(l r:List UInt8)(h:l≠[]):a7_ l++r≠[]:=by
 have:=(dV_ l h).1;intro e;have e':=congrArg List.length e;rw[List.length_append,List.length_nil]at e';omega
theorem l1_:∀(n:Nat) (l r:List UInt8),l.length<=n->pts (rep l++r)=pts l++pts r
 |0,l,r,h=>by
  have:l=[]:=List.eq_nil_of_length_eq_zero (by omega);subst this;simp[dM_,i4_]
 |n+1,l,r,h=>by
  by_cases hl:l=[]
  ·subst hl;simp[dM_,i4_]
  have ha:=cs_ l;rw[c7_ l hl,List.append_assoc,d1_ _ (dN_ l _ hl),gq_ l _ hl,e1_ l _ hl,d1_ l hl];rw[List.drop_left,l1_ n _ _ (by simp;omega)];rfl
theorem e5_(l:List UInt8):pts (rep l)=pts l:=by
 have:=l1_ l.length l [] (nl_);simpa[i4_]using this
theorem lW_(l:List UInt8):rep (rep l)=rep l:=by
 show(pts (rep l)).flatten=(pts l).flatten;rw[e5_]
def code(c:List UInt8):Nat:=
 match c with
 |[a]=>a.toNat
 |[a,b]=>(a.toNat % 32)*64+b.toNat % 64
 |[a,b,c]=>(a.toNat % 16)*4096+(b.toNat % 64)*64+c.toNat % 64
 |[a,b,c,d]=>(a.toNat % 8)*262144+(b.toNat % 64)*4096+(c.toNat % 64)*64+d.toNat % 64
 |_=>0
theorem get_eq(s:ByteArray)(i:Nat):s.get! i=s.data.toList.getD i 0:=by
 cases s with
 |mk a=>
  simp only[ByteArray.get!,List.getD,Array.getElem?_toList];rw[getElem!_def]
  cases a[i]?<;>rfl
theorem getD_drop(l:List UInt8)(i k:Nat):(l.drop i).getD k 0=l.getD (i+k) 0:=by
 simp[List.getD]
theorem dw_(s:ByteArray):s.data.toList.length=s.size:=by simp
theorem c3_(l:List UInt8)(n:Nat)(h:n<=l.length):l.take n=(List.range n).map fun i=>l.getD i 0:=by
 apply List.ext_getElem?;intro i
 by_cases hi:i<n
 ·rw[List.getElem?_take_of_lt hi]
  have:i<l.length:=by omega
  simp[hi,List.getD,this]
 rw[List.getElem?_eq_none (by rw[List.length_take];omega)];simp[hi]
theorem cq_(l:List UInt8)(h:sz l≠0):code (l.take (sz l)) =
  if sz l=1 then(l.getD 0 0).toNat
  else if sz l=2 then((l.getD 0 0).toNat % 32)*64+(l.getD 1 0).toNat % 64
  else if sz l=3 then((l.getD 0 0).toNat % 16)*4096+((l.getD 1 0).toNat % 64)*64+(l.getD 2 0).toNat % 64
  else((l.getD 0 0).toNat % 8)*262144+((l.getD 1 0).toNat % 64)*4096+((l.getD 2 0).toNat % 64)*64+(l.getD 3 0).toNat % 64:=by
 have hle:=fv_ l;have h4:=lE_ l;rw[c3_ l _ hle];generalize sz l=n at *;have:n=1\/n=2\/n=3\/n=4:=by omega
 rcases this with rfl|rfl|rfl|rfl<;>simp[code,List.range,List.range.loop]
theorem dA_(l:List UInt8):code (a7_ l)=if sz l=0 then 65533 else code (l.take (sz l)):=by
 unfold a7_
 split<;>rfl
theorem a9_(l:List UInt8)(i lo hi:Nat):rng l i lo hi=true↔(i<l.length/\lo<=(l.getD i 0).toNat/\(l.getD i 0).toNat<=hi):=by
 simp[rng]
theorem dZ_(l:List UInt8):bR_ l=true↔(1<l.length ∧
  (((l.getD 0 0).toNat=224/\160<=(l.getD 1 0).toNat/\(l.getD 1 0).toNat<=191)\/((l.getD 0 0).toNat=237/\128<=(l.getD 1 0).toNat/\(l.getD 1 0).toNat<=159) ∨
   ((l.getD 0 0).toNat=240/\144<=(l.getD 1 0).toNat/\(l.getD 1 0).toNat<=191)\/((l.getD 0 0).toNat=244/\128<=(l.getD 1 0).toNat/\(l.getD 1 0).toNat<=143) ∨
   ((l.getD 0 0).toNat≠224/\(l.getD 0 0).toNat≠237/\(l.getD 0 0).toNat≠240/\(l.getD 0 0).toNat≠244/\128<=(l.getD 1 0).toNat/\(l.getD 1 0).toNat<=191))):=by
 unfold bR_
 by_cases h1:(l.getD 0 0).toNat=224
 ·simp only[if_pos h1,a9_];omega
 by_cases h2:(l.getD 0 0).toNat=237
 ·simp only[if_neg h1,if_pos h2,a9_];omega
 by_cases h3:(l.getD 0 0).toNat=240
 ·simp only[if_neg h1,if_neg h2,if_pos h3,a9_];omega
 by_cases h4:(l.getD 0 0).toNat=244
 ·simp only[if_neg h1,if_neg h2,if_neg h3,if_pos h4,a9_];omega
 simp only[if_neg h1,if_neg h2,if_neg h3,if_neg h4,a9_];omega
def one(n x0:Nat):Prop:=0<n/\x0<=127
def two(n x0 x1:Nat):Prop:=1<n/\194<=x0/\x0<=223/\128<=x1/\x1<=191
def sec(x0 x1:Nat):Prop:=(x0=224/\160<=x1/\x1<=191)\/(x0=237/\128<=x1/\x1<=159)\/(x0=240/\144<=x1/\x1<=191)\/(x0=244/\128<=x1/\x1<=143)\/(x0≠224/\x0≠237/\x0≠240/\x0≠244/\128<=x1/\x1<=191)
def three(n x0 x1 x2:Nat):Prop:=2<n/\224<=x0/\x0<=239/\sec x0 x1/\128<=x2/\x2<=191
def four(n x0 x1 x2 x3:Nat):Prop:=3<n/\240<=x0/\x0<=244/\sec x0 x1/\128<=x2/\x2<=191/\128<=x3/\x3<=191
theorem hk_(l:List UInt8) :
  (sz l=1/\one l.length (l.getD 0 0).toNat)\/(sz l=2/\two l.length (l.getD 0 0).toNat (l.getD 1 0).toNat) ∨
  (sz l=3/\three l.length (l.getD 0 0).toNat (l.getD 1 0).toNat (l.getD 2 0).toNat)\/(sz l=4/\four l.length (l.getD 0 0).toNat (l.getD 1 0).toNat (l.getD 2 0).toNat (l.getD 3 0).toNat) ∨
  (sz l=0/\¬one l.length (l.getD 0 0).toNat/\¬two l.length (l.getD 0 0).toNat (l.getD 1 0).toNat/\¬three l.length (l.getD 0 0).toNat (l.getD 1 0).toNat (l.getD 2 0).toNat/\¬four l.length (l.getD 0 0).toNat (l.getD 1 0).toNat (l.getD 2 0).toNat (l.getD 3 0).toNat):=by
 have e:=sz.eq_1 l
 by_cases c1:rng l 0 0 127=true
 ·rw[if_pos c1]at e
  rw[a9_]at c1;exact Or.inl ⟨e,c1.1,c1.2.2⟩
 rw[if_neg c1]at e
 by_cases c2:(rng l 0 194 223 && rng l 1 128 191)=true
 ·rw[if_pos c2]at e
  rw[Bool.and_eq_true,a9_,a9_]at c2;exact Or.inr (Or.inl ⟨e,c2.2.1,c2.1.2.1,c2.1.2.2,c2.2.2⟩)
 rw[if_neg c2]at e
 by_cases c3:(rng l 0 224 239 && (bR_ l && rng l 2 128 191))=true
 ·rw[if_pos c3]at e
  rw[Bool.and_eq_true,Bool.and_eq_true,a9_,a9_,dZ_]at c3;exact Or.inr (Or.inr (Or.inl ⟨e,c3.2.2.1,c3.1.2.1,c3.1.2.2,c3.2.1.2,c3.2.2.2⟩))
 rw[if_neg c3]at e
 by_cases c4:(rng l 0 240 244 && (bR_ l && (rng l 2 128 191 && rng l 3 128 191)))=true
 ·rw[if_pos c4]at e
  rw[Bool.and_eq_true,Bool.and_eq_true,Bool.and_eq_true,a9_,a9_,a9_,dZ_]at c4;exact Or.inr (Or.inr (Or.inr (Or.inl ⟨e,c4.2.2.2.1,c4.1.2.1,c4.1.2.2,c4.2.1.2,c4.2.2.1.2.1,c4.2.2.1.2.2,c4.2.2.2.2⟩)))
 rw[if_neg c4]at e;rw[a9_]at c1;rw[Bool.and_eq_true,a9_,a9_]at c2;rw[Bool.and_eq_true,Bool.and_eq_true,a9_,a9_,dZ_]at c3;rw[Bool.and_eq_true,Bool.and_eq_true,Bool.and_eq_true,a9_,a9_,a9_,dZ_]at c4;refine Or.inr (Or.inr (Or.inr (Or.inr ⟨e,fun h=>c1 ⟨h.1,Nat.zero_le _,h.2⟩,fun h=>c2 ⟨⟨by have:=h.1;omega,h.2.1,h.2.2.1⟩,h.1,h.2.2.2⟩,fun h=>c3 ⟨⟨by have:=h.1;omega,h.2.1,h.2.2.1⟩,⟨by have:=h.1;omega,h.2.2.2.1⟩,h.1,h.2.2.2.2⟩,fun h=>c4 ⟨⟨by have:=h.1;omega,h.2.1,h.2.2.1⟩,⟨by have:=h.1;omega,h.2.2.2.1⟩,⟨by have:=h.1;omega,h.2.2.2.2.1,h.2.2.2.2.2.1⟩,h.1,h.2.2.2.2.2.2⟩⟩)))
def dec(n x0 x1 x2 x3:Nat):Nat×Nat:=
 if x0<0x80 then(x0,1)
 else if x0 / 32==6 && (decide (1<n) && x1 / 64==2) then
  if (x0 % 32)*64+x1 % 64 ≥ 0x80 then((x0 % 32)*64+x1 % 64,2) else(65533,1)
 else if x0 / 16==14 && (decide (1<n) && x1 / 64==2) && (decide (2<n) && x2 / 64==2) then
  if decide ((x0 % 16)*4096+(x1 % 64)*64+x2 % 64 ≥ 0x800) && Utf8.valid ((x0 % 16)*4096+(x1 % 64)*64+x2 % 64:Nat) then((x0 % 16)*4096+(x1 % 64)*64+x2 % 64,3) else(65533,1)
 else if x0 / 8==30 && (decide (1<n) && x1 / 64==2) && (decide (2<n) && x2 / 64==2) && (decide (3<n) && x3 / 64==2) then
  if decide ((x0 % 8)*262144+(x1 % 64)*4096+(x2 % 64)*64+x3 % 64 ≥ 0x10000) && Utf8.valid ((x0 % 8)*262144+(x1 % 64)*4096+(x2 % 64)*64+x3 % 64:Nat) then((x0 % 8)*262144+(x1 % 64)*4096+(x2 % 64)*64+x3 % 64,4) else(65533,1)
 else(65533,1)
theorem dec_one{n x0 x1 x2 x3:Nat}(h:one n x0):dec n x0 x1 x2 x3=(x0,1):=by
 unfold one at h;unfold dec;rw[if_pos (by omega)]
theorem dec_two{n x0 x1 x2 x3:Nat}(h:two n x0 x1):dec n x0 x1 x2 x3=((x0 % 32)*64+x1 % 64,2):=by
 unfold two at h;unfold dec;rw[if_neg (by omega),if_pos (by simp;omega),if_pos (by omega)]
theorem m8_{n x0 x1 x2 x3:Nat}(h:three n x0 x1 x2):dec n x0 x1 x2 x3=((x0 % 16)*4096+(x1 % 64)*64+x2 % 64,3):=by
 unfold three sec at h;unfold dec;rw[if_neg (by omega),if_neg (by simp;omega),if_pos (by simp;omega),if_pos];simp[Utf8.valid];omega
theorem oo_{n x0 x1 x2 x3:Nat}(h:four n x0 x1 x2 x3):dec n x0 x1 x2 x3=((x0 % 8)*262144+(x1 % 64)*4096+(x2 % 64)*64+x3 % 64,4):=by
 unfold four sec at h;unfold dec;rw[if_neg (by omega),if_neg (by simp;omega),if_neg (by simp;omega),if_pos (by simp;omega),if_pos];simp[Utf8.valid];omega
theorem on_{n x0 x1 x2 x3:Nat}(hn:0<n)(b0:x0<256)(b1:x1<256)(b2:x2<256)(b3:x3<256)(h1:¬one n x0)(h2:¬two n x0 x1)(h3:¬three n x0 x1 x2)(h4:¬four n x0 x1 x2 x3):dec n x0 x1 x2 x3=(65533,1):=by
 unfold one at h1;unfold two at h2;unfold three sec at h3;unfold four sec at h4;unfold dec;rw[if_neg (by omega)]
 split
 ·rename_i c
  simp at c;rw[if_neg (by omega)]
 split
 ·rename_i c
  simp at c;rw[if_neg];simp[Utf8.valid];omega
 split
 ·rename_i c
  simp at c;rw[if_neg];simp[Utf8.valid];omega
 rfl
theorem le_(s:ByteArray)(i:Nat)(h:i<s.size):Utf8.decode s i=dec (s.size-i) (s.data.toList.getD (i+0) 0).toNat (s.data.toList.getD (i+1) 0).toNat (s.data.toList.getD (i+2) 0).toNat (s.data.toList.getD (i+3) 0).toNat:=by
 unfold Utf8.decode dec;simp only[get_eq,Utf8.runeError];have e1:decide (1<s.size-i)=decide (i+1<s.size):=by rw[decide_eq_decide];omega
 have e2:decide (2<s.size-i)=decide (i+2<s.size):=by rw[decide_eq_decide];omega
 have e3:decide (3<s.size-i)=decide (i+3<s.size):=by rw[decide_eq_decide];omega
 rw[e1,e2,e3]
theorem dT_(s:ByteArray)(i:Nat)(h:i<s.size):Utf8.decode s i=(code (a7_ (s.data.toList.drop i)),adv (s.data.toList.drop i)):=by
 have hl:(s.data.toList.drop i).length=s.size-i:=by simp
 have hc:=hk_ (s.data.toList.drop i);rw[hl]at hc;simp only[getD_drop]at hc;rw[le_ s i h,dA_];have ct:=cq_ (s.data.toList.drop i);simp only[getD_drop]at ct;unfold adv;have b0:=(s.data.toList.getD (i+0) 0).toNat_lt;have b1:=(s.data.toList.getD (i+1) 0).toNat_lt;have b2:=(s.data.toList.getD (i+2) 0).toNat_lt;have b3:=(s.data.toList.getD (i+3) 0).toNat_lt
 rcases hc with⟨e,hc⟩|⟨e,hc⟩|⟨e,hc⟩|⟨e,hc⟩|⟨e,h1,h2,h3,h4⟩
 ·rw[dec_one hc,ct (by omega),e];rfl
 ·rw[dec_two hc,ct (by omega),e];rfl
 ·rw[m8_ hc,ct (by omega),e];rfl
 ·rw[oo_ hc,ct (by omega),e];rfl
 rw[on_ (by omega) b0 b1 b2 b3 h1 h2 h3 h4,e];rfl
end U
end
section
open Go.RowKit
namespace Bld
theorem infoByte:(Tryz.prog.info? 5).map (fun i=>(i.zero,i.size,i.bytes))=some (some (.int .u8 0),1,1):=by kernel_rfl
end Bld
end
section
open Go.RowKit
namespace T
theorem eX_(s:ByteArray)(k:Nat)(h:k<s.size):s.data.toList.drop k=s[k] :: s.data.toList.drop (k+1):=by
 have h':k<s.data.toList.length:=by simpa using h
 rw[List.drop_eq_getElem_cons h'];rfl
theorem eW_(s:ByteArray)(k:Nat)(h:¬k<s.size):s.data.toList.drop k=[]:=by
 apply List.drop_of_length_le;simpa using h
theorem runeCountFrom_eq(s:ByteArray):∀(fuel pos:Nat),s.size<=pos+fuel->Lib.runeCountFrom s fuel pos=(U.pts (s.data.toList.drop pos)).length
 |0,pos,h=>by
  rw[eW_ s pos (by omega)];rfl
 |f+1,pos,h=>by
  unfold Lib.runeCountFrom
  by_cases hp:pos<s.size
  ·have hne:s.data.toList.drop pos≠[]:=by rw[eX_ s pos hp];exact List.cons_ne_nil _ _
   have ha:=U.cs_ (s.data.toList.drop pos);rw[if_pos hp,U.dT_ s pos hp,U.d1_ _ hne,runeCountFrom_eq s f _ (by simp only[];omega),List.drop_drop,List.length_cons];dsimp only;omega
  rw[if_neg hp,eW_ s pos hp];rfl
theorem runeCount_eq(s:ByteArray):Lib.runeCount s=(U.pts s.data.toList).length:=runeCountFrom_eq s s.size 0 (by omega)
theorem Len(s:ByteArray)(w:World)(hs:s.size<=140737488351232) :
  Calls Tryz.prog 51 #[.string s] w fun e w'=>e=.returned (.int .i64 (U.pts s.data.toList).length)/\Below w.heap.size w w':=by
 rw[<-runeCount_eq]
 go_enter Tryz.func51,Tryz.ntmps51
 go_wp2_with (go_at_call 102;refine(Tryz.utf8_RuneCountInString _ _ (by omega)).mono ?_)
 rintro e w' ⟨rfl,pos,rfl⟩;go_wp2_with fail
 go_ret
 exact⟨rfl,(Below.refl _ w).alloc (nl_) _⟩
end T
end
section
namespace G
abbrev Bytes:=List UInt8
structure Node where
 kind:Nat
 name:Bytes
 attrs:List (Bytes×Bytes)
 data:Bytes
 parent:Option Nat
 kids:List Nat
 gone:Bool
def blank:Node:=⟨0,[],[],[],none,[],true⟩
abbrev aa_:=List Node
def nd(m:aa_)(i:Nat):Node:=m.getD i blank
theorem nY_{m:aa_}{i:Nat}(h:i<m.length):nd m i=m[i]:=by simp[nd,List.getD,h]
theorem c1_{m:aa_}{i:Nat}(h:m.length<=i):nd m i=blank:=by simp[nd,List.getD,h]
theorem bx_{m l:aa_}{i:Nat}(h:i<m.length):nd (m++l) i=nd m i:=by simp[nd,List.getD,List.getElem?_append_left h]
theorem h2_{m:aa_}{x:Node}:nd (m++[x]) m.length=x:=by simp[nd,List.getD]
theorem aK_{m:aa_}{x:Node}(i:Nat):nd (m++[x]) i=if i=m.length then x else nd m i:=by
 split
 ·rename_i h;rw[h];exact h2_
 rename_i h
 rcases Nat.lt_or_ge i m.length with h1|h1
 ·exact bx_ h1
 rw[c1_ h1,c1_ (by rw[List.length_append];simp;omega)]
def upd(m:aa_)(i:Nat)(f:Node->Node):aa_:=m.modify i f
@[simp] theorem cV_ (m:aa_) (i:Nat) (f:Node->Node):(upd m i f).length=m.length:=by unfold upd;simp
theorem cn_{m:aa_}{i:Nat}{f:Node->Node}(h:i<m.length)(j:Nat):nd (upd m i f) j=if j=i then f (nd m j)else nd m j:=by
 by_cases hj:j=i
 ·subst hj
  simp[nd,upd,List.getElem?_modify,h]
 have h2:¬i=j:=fun e=>hj e.symm;simp[nd,upd,List.getElem?_modify,h2,hj]
theorem l5_{m:aa_}{i j:Nat}{f:Node->Node}(h:i<m.length)(hj:j≠i):nd (upd m i f) j=nd m j:=by rw[cn_ h,if_neg hj]
def has(m:aa_)(h:Nat):Bool:=!(nd m h).gone
theorem aR_{m:aa_}{h:Nat}(hh:has m h=true):h<m.length:=by
 rcases Nat.lt_or_ge h m.length with h1|h1
 ·exact h1
 unfold has at hh;rw[c1_ h1]at hh;cases hh
def up(m:aa_):Nat->Nat->List Nat
 |0,_=>[]
 |n+1,h=>h :: (match (nd m h).parent with|none=>[]|some p=>up m n p)
def ends(m:aa_):Nat->Nat->Prop
 |0,_=>False
 |n+1,h=>match (nd m h).parent with|none=>True|some p=>ends m n p
theorem cX_{m:aa_}{n h:Nat}(hp:(nd m h).parent=none):up m (n+1) h=[h]:=by rw[up,hp]
theorem cW_{m:aa_}{n h p:Nat}(hp:(nd m h).parent=some p):up m (n+1) h=h :: up m n p:=by rw[up,hp]
theorem b6_{m:aa_}{n h:Nat}(hp:(nd m h).parent=none):ends m (n+1) h:=by rw[ends,hp];trivial
theorem aZ_{m:aa_}{n h p:Nat}(hp:(nd m h).parent=some p):ends m (n+1) h↔ends m n p:=by rw[ends,hp]
theorem iq_{m:aa_}:∀{n k h:Nat},ends m n h->n<=k->ends m k h
 |0,_,_,h,_=>h.elim
 |n+1,0,_,_,hk=>by omega
 |n+1,k+1,h,he,hk=>by
  cases hp:(nd m h).parent with
  |none=>exact b6_ hp
  |some p=>exact(aZ_ hp).2 (iq_ ((aZ_ hp).1 he) (by omega))
theorem ly_{m:aa_}:∀{n k h:Nat},ends m n h->n<=k->up m k h=up m n h
 |0,_,_,h,_=>h.elim
 |n+1,0,_,_,hk=>by omega
 |n+1,k+1,h,he,hk=>by
  cases hp:(nd m h).parent with
  |none=>rw[cX_ hp,cX_ hp]
  |some p=>rw[cW_ hp,cW_ hp,ly_ ((aZ_ hp).1 he) (by omega)]
theorem oN_{m:aa_}:∀(n h:Nat),(up m n h).length<=n
 |0,_=>by simp[up]
 |n+1,h=>by
  cases hp:(nd m h).parent with
  |none=>rw[cX_ hp];simp
  |some p=>rw[cW_ hp,List.length_cons];have:=oN_ (m:=m) n p;omega
theorem kc_{m:aa_}:∀{n h:Nat},ends m n h->ends m (up m n h).length h
 |0,_,h=>h.elim
 |n+1,h,he=>by
  cases hp:(nd m h).parent with
  |none=>rw[cX_ hp];exact b6_ hp
  |some p=>rw[cW_ hp,List.length_cons];exact(aZ_ hp).2 (kc_ ((aZ_ hp).1 he))
structure WF(m:aa_):Prop where
 doc:0<m.length/\(nd m 0).kind=1/\(nd m 0).parent=none/\(nd m 0).gone=false
 kinds:∀i,i<m.length->0<i->2<=(nd m i).kind/\(nd m i).kind<=4
 par:∀i p,(nd m i).parent=some p->p<m.length/\i∈(nd m p).kids
 kid:∀p i,i∈(nd m p).kids->i<m.length/\(nd m i).parent=some p
 nodup:∀p,(nd m p).kids.Nodup
 gone:∀i p,(nd m i).parent=some p->(nd m i).gone=(nd m p).gone
 ends:∀i,i<m.length->ends m 128 i
 leaf:∀i,3<=(nd m i).kind->(nd m i).kids=[]
def anc(m:aa_)(h:Nat):List Nat:=up m 128 h
def contains(m:aa_)(a b:Nat):Bool:=(anc m b).contains a
def depth(m:aa_)(h:Nat):Nat:=(anc m h).length
def top(m:aa_)(h:Nat):Nat:=(anc m h).getLast?.getD h
theorem WF.lt{m:aa_}(W:WF m){i p:Nat}(h:(nd m i).parent=some p):i<m.length/\p<m.length:=
 ⟨(W.kid p i (W.par i p h).2).1,(W.par i p h).1⟩
theorem WF.anc_root{m:aa_}(W:WF m){h:Nat}(hp:(nd m h).parent=none):anc m h=[h]:=cX_ hp
theorem WF.anc_step{m:aa_}(W:WF m){h p:Nat}(hp:(nd m h).parent=some p):anc m h=h :: anc m p:=by
 obtain⟨h1,h2⟩:=W.lt hp;have h3:G.ends m 127 p:=(aZ_ hp).1 (W.ends h h1);unfold anc;rw[cW_ hp,ly_ h3 (by omega:127<=128)]
theorem WF.anc_self{m:aa_}(W:WF m)(h:Nat):∃t,anc m h=h :: t:=by
 unfold anc;rw[up];exact⟨_,rfl⟩
theorem WF.depth_pos{m:aa_}(W:WF m)(h:Nat):1<=depth m h:=by
 obtain⟨t,ht⟩:=W.anc_self h;unfold depth;rw[ht,List.length_cons];omega
theorem WF.depth_le{m:aa_}(W:WF m)(h:Nat):depth m h<=128:=oN_ 128 h
theorem WF.depth_step{m:aa_}(W:WF m){h p:Nat}(hp:(nd m h).parent=some p):depth m h=depth m p+1:=by
 unfold depth;rw[W.anc_step hp,List.length_cons]
theorem WF.depth_root{m:aa_}(W:WF m){h:Nat}(hp:(nd m h).parent=none):depth m h=1:=by
 unfold depth;rw[W.anc_root hp];rfl
theorem WF.contains_self{m:aa_}(W:WF m)(h:Nat):contains m h h=true:=by
 unfold contains;obtain⟨t,ht⟩:=W.anc_self h;rw[ht];simp
theorem WF.contains_step{m:aa_}(W:WF m){a h p:Nat}(hp:(nd m h).parent=some p):contains m a h=(a==h || contains m a p):=by
 unfold contains;rw[W.anc_step hp]
 by_cases e:a=h
 ·simp[e]
 simp[e]
theorem WF.contains_root{m:aa_}(W:WF m){a h:Nat}(hp:(nd m h).parent=none):contains m a h=(a==h):=by
 unfold contains;rw[W.anc_root hp]
 by_cases e:a=h
 ·simp[e]
 simp[e]
theorem WF.top_root{m:aa_}(W:WF m){h:Nat}(hp:(nd m h).parent=none):top m h=h:=by
 unfold top;rw[W.anc_root hp];rfl
theorem WF.top_step{m:aa_}(W:WF m){h p:Nat}(hp:(nd m h).parent=some p):top m h=top m p:=by
 unfold top;obtain⟨t,ht⟩:=W.anc_self p;rw[W.anc_step hp,ht,List.getLast?_cons_cons,List.getLast?_cons];rfl
theorem WF.up_ind{m:aa_}(W:WF m){P:Nat->Prop}(h0:∀h,(nd m h).parent=none->P h)(h1:∀h p,(nd m h).parent=some p->P p->P h)(h:Nat):P h:=by
 have:∀n h,depth m h<=n->P h:=by
  intro n
  induction n with
  |zero=>intro h hn;have:=W.depth_pos h;omega
  |succ n ih=>
   intro h hn
   cases hp:(nd m h).parent with
   |none=>exact h0 h hp
   |some p=>exact h1 h p hp (ih p (by have:=W.depth_step hp;omega))
 exact this _ h (nl_)
theorem WF.down_ind{m:aa_}(W:WF m){P:Nat->Prop}(h1:∀h,(∀k,k∈(nd m h).kids->P k)->P h)(h:Nat):P h:=by
 have:∀n h,129<=depth m h+n->P h:=by
  intro n
  induction n with
  |zero=>intro h hn;have:=W.depth_le h;omega
  |succ n ih=>exact fun h hn=>h1 h (fun k hk=>ih k (by have:=W.depth_step (W.kid h k hk).2;omega))
 exact this 129 h (by omega)
def eg_(m:aa_):Nat->Nat->List Nat
 |0,_=>[]
 |n+1,h=>h :: ((nd m h).kids.flatMap (eg_ m n))
def walk(m:aa_)(h:Nat):List Nat:=eg_ m 128 h
def eC_(l:List Nat):Nat:=l.foldl max 0
def b3_(m:aa_):Nat->Nat->Nat
 |0,_=>0
 |n+1,h=>eC_ ((nd m h).kids.map (b3_ m n))+1
def ay_(m:aa_)(h:Nat):Nat:=b3_ m 128 h
theorem cT_{α β:Type}{l:List α}{f g:α->List β}(h:∀c∈l,f c=g c):l.flatMap f=l.flatMap g:=by
 rw[List.flatMap_def,List.flatMap_def,List.map_congr_left h]
theorem md_(l:List Nat)(a:Nat):l.foldl max a=max a (eC_ l):=by
 unfold eC_
 induction l generalizing a with
 |nil=>simp
 |cons b t ih=>rw[List.foldl_cons,List.foldl_cons,ih,ih (max 0 b)];omega
theorem h9_(b:Nat)(t:List Nat):eC_ (b :: t)=max b (eC_ t):=by
 conv=>lhs;unfold eC_
 rw[List.foldl_cons,md_];omega
theorem f1_{l:List Nat}{b:Nat}(h:∀x∈l,x<=b):eC_ l<=b:=by
 induction l with
 |nil=>exact Nat.zero_le _
 |cons a t ih=>rw[h9_];have:=h a (by simp);have:=ih (fun x hx=>h x (by simp[hx]));omega
theorem le_maxL{l:List Nat}{x:Nat}(h:x∈l):x<=eC_ l:=by
 induction l with
 |nil=>cases h
 |cons a t ih=>
  rw[h9_]
  rcases List.mem_cons.1 h with rfl|h
  ·omega
  have:=ih h;omega
theorem WF.walk_enough{m:aa_}(W:WF m):∀(n k h:Nat),129<=depth m h+n->129<=depth m h+k->eg_ m n h=eg_ m k h
 |0,_,h,hn,_=>by have:=W.depth_le h;omega
 |_,0,h,_,hk=>by have:=W.depth_le h;omega
 |n+1,k+1,h,hn,hk=>by
  rw[eg_,eg_]
  congr 1
  rw[List.flatMap_def,List.flatMap_def]
  congr 1
  refine List.map_congr_left fun c hc=>WF.walk_enough W n k c ?_ ?_
  ·have:=W.depth_step (W.kid h c hc).2;omega
  have:=W.depth_step (W.kid h c hc).2;omega
theorem WF.walk_eq{m:aa_}(W:WF m)(h:Nat):walk m h=h :: ((nd m h).kids.flatMap (walk m)):=by
 have e:eg_ m (127+1) h=h :: ((nd m h).kids.flatMap (eg_ m 127)):=by rw[eg_]
 refine Eq.trans e (congrArg (h :: ·) (cT_ fun c hc=>W.walk_enough 127 128 c ?_ ?_))
 ·have:=W.depth_step (W.kid h c hc).2;have:=W.depth_pos h;omega
 have:=W.depth_pos c;omega
theorem WF.height_enough{m:aa_}(W:WF m):∀(n k h:Nat),129<=depth m h+n->129<=depth m h+k->b3_ m n h=b3_ m k h
 |0,_,h,hn,_=>by have:=W.depth_le h;omega
 |_,0,h,_,hk=>by have:=W.depth_le h;omega
 |n+1,k+1,h,hn,hk=>by
  rw[b3_,b3_]
  congr 2
  refine List.map_congr_left fun c hc=>WF.height_enough W n k c ?_ ?_
  ·have:=W.depth_step (W.kid h c hc).2;omega
  have:=W.depth_step (W.kid h c hc).2;omega
theorem WF.height_eq{m:aa_}(W:WF m)(h:Nat):ay_ m h=eC_ ((nd m h).kids.map (ay_ m))+1:=by
 have e:b3_ m (127+1) h=eC_ ((nd m h).kids.map (b3_ m 127))+1:=by rw[b3_]
 refine Eq.trans e (congrArg (fun l=>eC_ l+1) (List.map_congr_left fun c hc=>W.height_enough 127 128 c ?_ ?_))
 ·have:=W.depth_step (W.kid h c hc).2;have:=W.depth_pos h;omega
 have:=W.depth_pos c;omega
theorem WF.height_kid{m:aa_}(W:WF m){h k:Nat}(hk:k∈(nd m h).kids):ay_ m k+1<=ay_ m h:=by
 rw[W.height_eq h];have:=le_maxL (List.mem_map_of_mem (f:=ay_ m) hk);omega
theorem WF.height_pos{m:aa_}(W:WF m)(h:Nat):1<=ay_ m h:=by rw[W.height_eq h];omega
theorem WF.height_depth{m:aa_}(W:WF m)(h:Nat):ay_ m h+depth m h<=129:=by
 refine W.down_ind (P:=fun h=>ay_ m h+depth m h<=129) (fun h ih=>?_) h;rw[W.height_eq h];have:eC_ ((nd m h).kids.map (ay_ m))<=128-depth m h:=by
  refine f1_ fun x hx=>?_;obtain⟨k,hk,rfl⟩:=List.mem_map.1 hx;have h1:=ih k hk;have h2:=W.depth_step (W.kid h k hk).2;omega
 have:=W.depth_le h;omega
theorem WF.mem_walk{m:aa_}(W:WF m){a:Nat}(h:Nat)(ha:a<m.length):a∈walk m h↔contains m h a=true:=by
 have h1:∀a,contains m h a=true->a∈walk m h:=by
  intro a;refine W.up_ind (P:=fun a=>∀h,contains m h a=true->a∈walk m h) (fun a hp h hc=>?_) (fun a p hp ih h hc=>?_) a h
  ·rw[W.contains_root hp]at hc
   have:=beq_iff_eq.1 hc;subst this;rw[W.walk_eq];exact List.mem_cons_self ..
  rw[W.contains_step hp]at hc
  rcases Bool.or_eq_true_iff.1 hc with hc|hc
  ·have:=beq_iff_eq.1 hc
   subst this;rw[W.walk_eq];exact List.mem_cons_self ..
  have h2:=ih h hc;have h3:∀h,p∈walk m h->a∈walk m h:=by
   intro h;refine W.down_ind (P:=fun h=>p∈walk m h->a∈walk m h) (fun h ih hm=>?_) h;rw[W.walk_eq]at hm ⊢
   rcases List.mem_cons.1 hm with e|hm
   ·subst e
    refine List.mem_cons_of_mem _ (List.mem_flatMap.2 ⟨a,(W.par a p hp).2,?_⟩);rw[W.walk_eq];exact List.mem_cons_self ..
   obtain⟨k,hk,hkm⟩:=List.mem_flatMap.1 hm;exact List.mem_cons_of_mem _ (List.mem_flatMap.2 ⟨k,hk,ih k hk hkm⟩)
  exact h3 h h2
 refine⟨?_,h1 a⟩;refine W.down_ind (P:=fun h=>a∈walk m h->contains m h a=true) (fun h ih hm=>?_) h;rw[W.walk_eq]at hm
 rcases List.mem_cons.1 hm with e|hm
 ·subst e;exact W.contains_self a
 obtain⟨k,hk,hkm⟩:=List.mem_flatMap.1 hm;have h2:=ih k hk hkm;have h3:∀a,contains m k a=true->contains m h a=true:=by
  intro a;refine W.up_ind (P:=fun a=>contains m k a=true->contains m h a=true) (fun a hp hc=>?_) (fun a p hp ih hc=>?_) a
  ·rw[W.contains_root hp]at hc
   have e:=beq_iff_eq.1 hc;subst e;rw[(W.kid h k hk).2]at hp
   cases hp
  rw[W.contains_step hp]at hc ⊢
  rcases Bool.or_eq_true_iff.1 hc with hc|hc
  ·have e:=beq_iff_eq.1 hc
   subst e;have e2:p=h:=by rw[(W.kid h k hk).2]at hp;injection hp with hp;exact hp.symm
   subst e2;rw[W.contains_self p,Bool.or_true]
  rw[ih hc,Bool.or_true]
 exact h3 a h2
end G
end
section
open Go.RowKit
namespace T
def Row(W:World)(g:Nat)(l:List UInt8):Prop:=
 (∀j (h:j<l.length),W.cell? ⟨g,j,none⟩=some (.int .u8 (l[j].toNat:Int)))/\(∀j,j<l.length->W.frozen? ⟨g,j,none⟩=false)
theorem Row.set{W:World}{g:Nat}{l:List UInt8}(h:Row W g l)(k:Nat)(hk:k<l.length)(c:UInt8):Row (W.setCell ⟨g,k,none⟩ (.int .u8 (c.toNat:Int))) g (l.set k c):=by
 refine⟨fun j hj=>?_,fun j hj=>?_⟩
 ·by_cases e:k=j
  ·subst e
   rw[World.cell?_setCell_same' _ _ _ (by rw[h.1 k hk];rfl)];simp
  have hj':j<l.length:=by simpa using hj
  rw[World.cell?_setCell_other]
  ·rw[h.1 j hj'];simp[List.getElem_set,e]
  simp[e]
 rw[World.frozen?_setCell];exact h.2 j (by simpa using hj)
theorem Row.same{W:World}{g:Nat}{l:List UInt8}(h:Row W g l)(k:Nat)(hk:k<l.length)(c:UInt8)(hc:l[k]=c):Row W g (l.set k c):=by
 subst hc;rw[List.set_getElem_self];exact h
theorem ow_(s:ByteArray)(w:World):∃cap W1,(convert 9 118 (.string s)).run Tryz.prog w=.ok (.slice (some ⟨w.heap.size,0,none⟩) s.size cap) W1/\Row W1 w.heap.size s.data.toList/\Below w.heap.size w W1:=by
 refine⟨_,_,run_bytes_of_string w 9 118 5 s Tryz.underlying9 Tryz.underlying118 Tryz.underlying5,⟨fun j hj=>?_,fun j hj=>?_⟩,?_⟩
 ·have hj':j<s.data.size:=by simpa using hj
  have:=World.cell?_alloc_mark w.drew (bytesRow s (grownCap w s.size 0 5)) 5 ((bytesRow s (grownCap w s.size 0 5)).size,(bytesRow s (grownCap w s.size 0 5)).size+1) j;refine this.trans ?_;rw[bytesRow_at s _ j hj'];simp
 ·have hj':j<s.data.size:=by simpa using hj
  have:=World.frozen?_alloc_mark w.drew (bytesRow s (grownCap w s.size 0 5)) 5 (bytesRow s (grownCap w s.size 0 5)).size ((bytesRow s (grownCap w s.size 0 5)).size+1) j;refine this.trans ?_;have hlt:j<(bytesRow s (grownCap w s.size 0 5)).size:=by have:=(bytesRow_at s (grownCap w s.size 0 5) j hj');exact(Array.getElem?_eq_some_iff.1 this).1
  have:decide ((bytesRow s (grownCap w s.size 0 5)).size<=j)=false:=by simp;exact hlt
  rw[this];rfl
 exact((Below.refl _ w).drew).alloc (nl_) _
theorem lG_(W:World)(g n cap:Nat)(l:List UInt8)(h:Row W g l)(hn:l.length=n) :
  (convert 118 9 (.slice (some ⟨g,0,none⟩) n cap)).run Tryz.prog W=.ok (.string ⟨l.toArray⟩) W:=by
 subst hn;exact run_convert_bytes_back W 118 9 5 ⟨g,0,none⟩ cap l Tryz.underlying118 Tryz.underlying5 Tryz.underlying9 (fun j hj=>by
  have h1:=h.1 j hj;have e:(⟨g,0,none⟩:Addr).add j=⟨g,j,none⟩:=by
   simp[Addr.add];intro h0;rw[h0]
  rw[e];exact h1)
def mp(f:UInt8->UInt8)(k:Nat)(l:List UInt8):List UInt8:=(l.take k).map f++l.drop k
theorem dt_(f:UInt8->UInt8)(k:Nat)(l:List UInt8):(mp f k l).length=l.length:=by
 simp[mp];omega
theorem mp_at(f:UInt8->UInt8)(k:Nat)(l:List UInt8)(h:k<l.length)(h':k<(mp f k l).length):(mp f k l)[k]=l[k]:=by
 have hm:min k l.length=k:=by omega
 have e:(mp f k l)[k]?=l[k]?:=by
  unfold mp;rw[List.getElem?_append_right (by simp;omega)];simp[hm]
 rw[List.getElem?_eq_getElem h',List.getElem?_eq_getElem h]at e;exact Option.some.inj e
theorem l7_(f:UInt8->UInt8)(k:Nat)(l:List UInt8)(h:k<l.length):(mp f k l).set k (f l[k])=mp f (k+1) l:=by
 unfold mp;have hm:min k l.length=k:=by omega
 rw[List.set_append_right _ _ (by simp;omega),List.drop_eq_getElem_cons h,List.take_succ_eq_append_getElem h,List.map_append,List.length_map,List.length_take,hm,Nat.sub_self,List.set_cons_zero];simp
theorem mp_all(f:UInt8->UInt8)(k:Nat)(l:List UInt8)(h:l.length<=k):mp f k l=l.map f:=by
 unfold mp;rw[List.take_of_length_le h,List.drop_of_length_le h,List.append_nil]
def MapRel(f:UInt8->UInt8)(s:ByteArray)(w:World)(i:Value)(wr:World):Prop:=
 ∃k:Nat,k<=s.size/\i=.int .i64 k/\Row wr w.heap.size (mp f k s.data.toList)/\Below w.heap.size w wr
theorem o5_(s:ByteArray)(lo hi d:Int)(f:UInt8->UInt8)(w:World)(hs:s.size<=140737488351232)(hd:-1000<=d/\d<=1000)
  (hin:∀c:UInt8,lo<=(c.toNat:Int)->(c.toNat:Int)<=hi->((f c).toNat:Int)=c.toNat+d) (hout:∀c:UInt8,¬(lo<=(c.toNat:Int)/\(c.toNat:Int)<=hi)->f c=c) :
  Calls Tryz.prog 169 #[.string s,.int .u8 lo,.int .u8 hi,.int .i64 d] w fun e w'=>e=.returned (.string ⟨(s.data.toList.map f).toArray⟩)/\Below w.heap.size w w':=by
 obtain⟨cap,W1,hconv,hR0,hB0⟩:=ow_ s w;have H0:=hi_ hR0;have Hin:=hi_ hin;have Hout:=hi_ hout;obtain⟨hd1,hd2⟩:=hd;clear hR0 hin hout
 go_enter Tryz.func169,Tryz.ntmps169
 go_wp2_with fail
 clear hconv
 go_loopw [16] (fun i wr=>MapRel f s w i wr) (fun i _=>s.size-(Go.RowKit.intOf i).toNat)
 case atStart=>exact⟨0,Nat.zero_le _,rfl,by simpa[mp]using H0.o,hB0⟩
 obtain⟨k,hk,rfl,hR,hB⟩:=hrel;have HR:=hi_ hR;clear hR
 by_cases hlt:k<s.size
 ·have hl:k<s.data.toList.length:=by simpa using hlt
  have hc:=HR.o.1 k (by rw[dt_];exact hl);rw[mp_at f k _ hl]at hc;have hf:=HR.o.2 k (by rw[dt_];exact hl);have hb:=(s.data.toList[k]).toNat_lt;generalize hx:s.data.toList[k]=x at *;have HX:=hi_ hx;clear hx
  by_cases h1:lo<=(x.toNat:Int)
  ·by_cases h2:(x.toNat:Int)<=hi
   ·have e:=Hin.o x h1 h2
    have hb2:=(f x).toNat_lt;have hlo:0<=(x.toNat:Int)+d:=by omega
    have hhi:(x.toNat:Int)+d<256:=by omega
    have HE:=hi_ e;clear e;go_wp2_with fail
    go_roundw
    case rel=>
     refine⟨k+1,by omega,by go_num,?_,hB.setCell (p:=⟨w.heap.size,k,none⟩) (nl_) _⟩;have h3:=HR.o.set k (by rw[dt_];exact hl) (f x);rw[<-HX.o,l7_ f k _ hl,HX.o,HE.o]at h3;exact h3
    simp[Go.RowKit.intOf];omega
   have e:=Hout.o x (fun h=>h2 h.2);have h2':hi<(x.toNat:Int):=by omega
   clear h2;have HE:=hi_ e;clear e;go_wp2_with fail
   go_roundw
   case rel=>
    refine⟨k+1,by omega,by go_num,?_,hB⟩;have h3:=HR.o;rw[<-l7_ f k _ hl,HX.o,HE.o];exact h3.same k (by rw[dt_];exact hl) x (by rw[mp_at f k _ hl];exact HX.o)
   simp[Go.RowKit.intOf];omega
  have e:=Hout.o x (fun h=>h1 h.1);have h1':(x.toNat:Int)<lo:=by omega
  clear h1;have HE:=hi_ e;clear e;go_wp2_with fail
  go_roundw
  case rel=>
   refine⟨k+1,by omega,by go_num,?_,hB⟩;have h3:=HR.o;rw[<-l7_ f k _ hl,HX.o,HE.o];exact h3.same k (by rw[dt_];exact hl) x (by rw[mp_at f k _ hl];exact HX.o)
  simp[Go.RowKit.intOf];omega
 have hback:=lG_ wr w.heap.size s.size cap _ HR.o (by rw[dt_];simp);rw[mp_all f k _ (by simp;omega)]at hback;go_wp2_with fail
 go_ret
 exact⟨rfl,hB⟩
def low(c:UInt8):UInt8:=if 65<=c.toNat/\c.toNat<=90 then UInt8.ofNat (c.toNat+32)else c
def upp(c:UInt8):UInt8:=if 97<=c.toNat/\c.toNat<=122 then UInt8.ofNat (c.toNat-32)else c
theorem low_in(c:UInt8)(h1:65<=(c.toNat:Int))(h2:(c.toNat:Int)<=90):((low c).toNat:Int)=c.toNat+32:=by
 unfold low;rw[if_pos (by omega)];simp;omega
theorem low_out(c:UInt8)(h:¬(65<=(c.toNat:Int)/\(c.toNat:Int)<=90)):low c=c:=by
 unfold low;rw[if_neg (by omega)]
theorem upp_in(c:UInt8)(h1:97<=(c.toNat:Int))(h2:(c.toNat:Int)<=122):((upp c).toNat:Int)=c.toNat + -32:=by
 unfold upp;rw[if_pos (by omega)];simp;omega
theorem upp_out(c:UInt8)(h:¬(97<=(c.toNat:Int)/\(c.toNat:Int)<=122)):upp c=c:=by
 unfold upp;rw[if_neg (by omega)]
theorem Lower(s:ByteArray)(w:World)(hs:s.size<=140737488351232) :
  Calls Tryz.prog 164 #[.string s] w fun e w'=>e=.returned (.string ⟨(s.data.toList.map low).toArray⟩)/\Below w.heap.size w w':=by
 go_enter Tryz.func164,Tryz.ntmps164
 go_wp2_with (go_at_call 169;refine(o5_ s 65 90 32 low _ hs (by omega) low_in low_out).mono ?_)
 rintro e w1 ⟨rfl,hb⟩;go_wp2_with fail
 go_ret
 exact⟨rfl,hb⟩
theorem getD_at(s:ByteArray)(k:Nat)(h:k<s.size):s.data.toList.getD k 0=s[k]:=by
 have h':k<s.data.toList.length:=by simpa using h
 rw[List.getD,List.getElem?_eq_getElem h'];rfl
theorem rng_yes(s:ByteArray)(k lo hi:Nat)(h:k<s.size)(h1:lo<=s[k].toNat)(h2:s[k].toNat<=hi):U.rng s.data.toList k lo hi=true:=by
 rw[U.a9_,getD_at s k h];exact⟨by simpa using h,h1,h2⟩
theorem lU_(s:ByteArray)(k lo hi:Nat)(h:¬k<s.size):U.rng s.data.toList k lo hi=false:=by
 rw[Bool.eq_false_iff];intro e;rw[U.a9_]at e;exact h (by simpa using e.1)
theorem oX_(s:ByteArray)(k lo hi:Nat)(h:k<s.size)(h1:¬(lo<=s[k].toNat/\s[k].toNat<=hi)):U.rng s.data.toList k lo hi=false:=by
 rw[Bool.eq_false_iff];intro e;rw[U.a9_,getD_at s k h]at e;exact h1 e.2
theorem ap_{a b:Bool}(h:a=b):Ending.returned (.bool a)=.returned (.bool b):=by rw[h]
theorem bL_(s:ByteArray)(i:Int)(lo hi:Nat)(w:World)(hs:s.size<=140737488351232)(h0:0<=i) :
  Calls Tryz.prog 146 #[.string s,.int .i64 i,.int .u8 lo,.int .u8 hi] w fun e w'=>e=.returned (.bool (U.rng s.data.toList i.toNat lo hi))/\w=w':=by
 obtain⟨k,rfl⟩:=Int.eq_ofNat_of_zero_le h0;rw[Int.toNat_natCast];clear h0
 by_cases hlt:k<s.size
 ·by_cases h1:lo<=s[k].toNat
  ·by_cases h2:s[k].toNat<=hi
   ·have HE:=hi_ (rng_yes s k lo hi hlt h1 h2)
    go_enter Tryz.func146,Tryz.ntmps146
    go_wp2
    go_ret
    exact⟨ap_ (by rw[HE.o]),rfl⟩
   have HE:=hi_ (oX_ s k lo hi hlt (fun h=>h2 h.2))
   go_enter Tryz.func146,Tryz.ntmps146
   go_wp2
   go_ret
   exact⟨ap_ (by rw[HE.o]),rfl⟩
  have HE:=hi_ (oX_ s k lo hi hlt (fun h=>h1 h.1))
  go_enter Tryz.func146,Tryz.ntmps146
  go_wp2
  go_ret
  exact⟨ap_ (by rw[HE.o]),rfl⟩
 have HE:=hi_ (lU_ s k lo hi hlt);have hge:s.size<=k:=by omega
 clear hlt
 go_enter Tryz.func146,Tryz.ntmps146
 go_wp2
 go_ret
 exact⟨ap_ (by rw[HE.o]),rfl⟩
theorem jL_(l:List UInt8)(i k lo hi:Nat):U.rng (l.drop i) k lo hi=U.rng l (i+k) lo hi:=by
 unfold U.rng;rw[U.getD_drop,List.length_drop];rw[decide_eq_decide];omega
def tl(l:List UInt8)(i:Nat):Nat->Bool
 |0=>true
 |n+1=>tl l i n && U.rng l (i+n) 128 191
theorem jF_(l:List UInt8)(i k:Nat)(h:U.rng l (i+k) 128 191=false):∀n,k<n->tl l i n=false
 |0,hk=>by omega
 |n+1,hk=>by
  by_cases e:k=n
  ·subst e;simp[tl,h]
  simp[tl,jF_ l i k h n (by omega)]
theorem e4_(s:ByteArray)(i:Int)(n:Nat)(w:World)(hs:s.size<=140737488351232)(h0:0<=i)(hi:i<=140737488361232)(hn:n<=10) :
  Calls Tryz.prog 147 #[.string s,.int .i64 i,.int .i64 n] w fun e w'=>e=.returned (.bool (tl s.data.toList i.toNat n))/\w=w':=by
 obtain⟨j,rfl⟩:=Int.eq_ofNat_of_zero_le h0;rw[Int.toNat_natCast];clear h0
 go_enter Tryz.func147,Tryz.ntmps147
 go_wp2_with fail
 go_loop [7] (fun c=>∃k:Nat,k<=n/\c=.int .i64 k/\Hd (tl s.data.toList j k=true)) (fun c=>n-(Go.RowKit.intOf c).toNat)
 case atStart=>exact⟨0,Nat.zero_le _,rfl,hi_ rfl⟩
 obtain⟨k,hk,rfl,HT⟩:=hrel
 by_cases hlt:k<n
 ·cases hr:U.rng s.data.toList (j+k) 128 191 with
  |true=>
   have HR:=hi_ hr;have hc:=fun W=>bL_ s ((j:Int)+k) 128 191 W hs (by omega);rw[show((j:Int)+k).toNat=j+k from by omega,hr]at hc;have HC:=hi_ hc;clear hc hr;go_wp2_with (go_at_call 146;refine(HC.o _).mono ?_;rintro e w' ⟨rfl,rfl⟩)
   go_round
   case rel=>exact⟨k+1,by omega,by go_num,hi_ (by simp[tl,HT.o,HR.o])⟩
   simp[Go.RowKit.intOf];omega
  |false=>
   have HF:=hi_ (jF_ _ _ _ hr n hlt);have hc:=fun W=>bL_ s ((j:Int)+k) 128 191 W hs (by omega);rw[show((j:Int)+k).toNat=j+k from by omega,hr]at hc;have HC:=hi_ hc;clear hc hr;go_wp2_with (go_at_call 146;refine(HC.o _).mono ?_;rintro e w' ⟨rfl,rfl⟩)
   go_ret
   exact⟨ap_ HF.o.symm,rfl⟩
 obtain rfl:k=n:=by omega
 go_wp2_with fail
 go_ret
 exact⟨ap_ HT.o.symm,rfl⟩
theorem lS_(s:ByteArray)(k:Nat)(h:k<s.size):U.bR_ (s.data.toList.drop k) =
  if s[k].toNat=224 then U.rng s.data.toList (k+1) 160 191
  else if s[k].toNat=237 then U.rng s.data.toList (k+1) 128 159
  else if s[k].toNat=240 then U.rng s.data.toList (k+1) 144 191
  else if s[k].toNat=244 then U.rng s.data.toList (k+1) 128 143
  else U.rng s.data.toList (k+1) 128 191:=by
 unfold U.bR_;simp only[U.getD_drop,Nat.add_zero,getD_at s k h,jL_]
theorem dn_(s:ByteArray)(i:Int)(w:World)(hs:s.size<=140737488351232)(h0:0<=i)(hi:i<s.size) :
  Calls Tryz.prog 148 #[.string s,.int .i64 i] w fun e w'=>e=.returned (.bool (U.bR_ (s.data.toList.drop i.toNat)))/\w=w':=by
 obtain⟨k,rfl⟩:=Int.eq_ofNat_of_zero_le h0;rw[Int.toNat_natCast];clear h0;have hlt:k<s.size:=by omega
 rw[lS_ s k hlt];have hc:=fun lo hi W=>bL_ s ((k:Int)+1) lo hi W hs (by omega);simp only[show((k:Int)+1).toNat=k+1 from by omega]at hc;have HC:=hi_ hc;clear hc;have hb:=(s[k]).toNat_lt
 by_cases h1:s[k].toNat=224
 ·rw[if_pos h1]
  have t1:((s[k].toNat:Int)==224)=true:=beq_iff_eq.2 (by omega);clear h1
  go_enter Tryz.func148,Tryz.ntmps148
  go_wp2_with (go_at_call 146;refine(HC.o 160 191 _).mono ?_;rintro e w' ⟨rfl,rfl⟩)
  go_ret
  exact⟨rfl,rfl⟩
 rw[if_neg h1];have t1:((s[k].toNat:Int)==224)=false:=bn_ (by omega);clear h1
 by_cases h2:s[k].toNat=237
 ·rw[if_pos h2]
  have t2:((s[k].toNat:Int)==237)=true:=beq_iff_eq.2 (by omega);clear h2
  go_enter Tryz.func148,Tryz.ntmps148
  go_wp2_with (go_at_call 146;refine(HC.o 128 159 _).mono ?_;rintro e w' ⟨rfl,rfl⟩)
  go_ret
  exact⟨rfl,rfl⟩
 rw[if_neg h2];have t2:((s[k].toNat:Int)==237)=false:=bn_ (by omega);clear h2
 by_cases h3:s[k].toNat=240
 ·rw[if_pos h3]
  have t3:((s[k].toNat:Int)==240)=true:=beq_iff_eq.2 (by omega);clear h3
  go_enter Tryz.func148,Tryz.ntmps148
  go_wp2_with (go_at_call 146;refine(HC.o 144 191 _).mono ?_;rintro e w' ⟨rfl,rfl⟩)
  go_ret
  exact⟨rfl,rfl⟩
 rw[if_neg h3];have t3:((s[k].toNat:Int)==240)=false:=bn_ (by omega);clear h3
 by_cases h4:s[k].toNat=244
 ·rw[if_pos h4]
  have t4:((s[k].toNat:Int)==244)=true:=beq_iff_eq.2 (by omega);clear h4
  go_enter Tryz.func148,Tryz.ntmps148
  go_wp2_with (go_at_call 146;refine(HC.o 128 143 _).mono ?_;rintro e w' ⟨rfl,rfl⟩)
  go_ret
  exact⟨rfl,rfl⟩
 rw[if_neg h4];have t4:((s[k].toNat:Int)==244)=false:=bn_ (by omega);clear h4
 go_enter Tryz.func148,Tryz.ntmps148
 go_wp2_with (go_at_call 146;refine(HC.o 128 191 _).mono ?_;rintro e w' ⟨rfl,rfl⟩)
 go_ret
 exact⟨rfl,rfl⟩
end T
end
section
namespace G
theorem WF.same{m m':aa_}(W:WF m)(hl:m'.length=m.length)(h:∀i,(nd m' i).kind=(nd m i).kind/\(nd m' i).parent=(nd m i).parent/\(nd m' i).kids=(nd m i).kids/\(nd m' i).gone=(nd m i).gone):WF m':=by
 have he:∀n i,G.ends m n i->G.ends m' n i:=by
  intro n
  induction n with
  |zero=>intro i h;exact h.elim
  |succ n ih=>
   intro i he
   cases hp:(nd m i).parent with
   |none=>exact b6_ ((h i).2.1.trans hp)
   |some p=>exact(aZ_ ((h i).2.1.trans hp)).2 (ih p ((aZ_ hp).1 he))
 refine⟨⟨by rw[hl];exact W.doc.1,(h 0).1.trans W.doc.2.1,(h 0).2.1.trans W.doc.2.2.1,(h 0).2.2.2.trans W.doc.2.2.2⟩,fun i hi h0=>?_,fun i p hp=>?_,fun p i hi=>?_,fun p=>?_,fun i p hp=>?_,fun i hi=>he _ _ (W.ends i (by rw[<-hl];exact hi)),fun i hi=>?_⟩
 ·rw[(h i).1];exact W.kinds i (by rw[<-hl];exact hi) h0
 ·rw[(h i).2.1]at hp;rw[hl,(h p).2.2.1];exact W.par i p hp
 ·rw[(h p).2.2.1]at hi;rw[hl,(h i).2.1];exact W.kid p i hi
 ·rw[(h p).2.2.1];exact W.nodup p
 ·rw[(h i).2.1]at hp;rw[(h i).2.2.2,(h p).2.2.2];exact W.gone i p hp
 rw[(h i).1]at hi;rw[(h i).2.2.1];exact W.leaf i hi
def cut(m:aa_)(h p:Nat):aa_:=upd (upd m p fun x=>{ x with kids:=x.kids.erase h }) h fun x=>{ x with parent:=none }
@[simp] theorem cK_ (m:aa_) (h p:Nat):(cut m h p).length=m.length:=by unfold cut;simp
theorem bT_{m:aa_}{h p:Nat}(h1:h<m.length)(h2:p<m.length)(j:Nat) :
  nd (cut m h p) j={ nd m j with kids:=if j=p then(nd m j).kids.erase h else(nd m j).kids,parent:=if j=h then none else(nd m j).parent }:=by
 unfold cut;rw[cn_ (by simpa using h1),cn_ h2]
 by_cases e1:j=h
 ·by_cases e2:j=p
  ·simp only[if_pos e1,if_pos e2]
  simp only[if_pos e1,if_neg e2]
 by_cases e2:j=p
 ·simp only[if_neg e1,if_pos e2]
 simp only[if_neg e1,if_neg e2]
theorem WF.ne_parent{m:aa_}(W:WF m){h p:Nat}(hp:(nd m h).parent=some p):h≠p:=by
 intro e;subst e;have:=W.depth_step hp;omega
theorem ok_{m:aa_}{h p:Nat}(h1:h<m.length)(h2:p<m.length):∀n i,ends m n i->ends (cut m h p) n i:=by
 intro n
 induction n with
 |zero=>intro i h;exact h.elim
 |succ n ih=>
  intro i he;have hq:(nd (cut m h p) i).parent=if i=h then none else(nd m i).parent:=by rw[bT_ h1 h2]
  by_cases e:i=h
  ·rw[if_pos e]at hq;exact b6_ hq
  rw[if_neg e]at hq
  cases hp:(nd m i).parent with
  |none=>exact b6_ (hq.trans hp)
  |some q=>exact(aZ_ (hq.trans hp)).2 (ih q ((aZ_ hp).1 he))
theorem WF.cut{m:aa_}(W:WF m){h p:Nat}(hp:(nd m h).parent=some p):WF (cut m h p):=by
 obtain⟨h1,h2⟩:=W.lt hp;have hk:∀j,(nd (G.cut m h p) j).kind=(nd m j).kind:=fun j=>by rw[bT_ h1 h2]
 have hP:∀j,(nd (G.cut m h p) j).parent=if j=h then none else(nd m j).parent:=fun j=>by rw[bT_ h1 h2]
 have hK:∀j,(nd (G.cut m h p) j).kids=if j=p then(nd m j).kids.erase h else(nd m j).kids:=fun j=>by rw[bT_ h1 h2]
 have hg:∀j,(nd (G.cut m h p) j).gone=(nd m j).gone:=fun j=>by rw[bT_ h1 h2]
 have h0:h≠0:=fun e=>by subst e;rw[W.doc.2.2.1]at hp;cases hp
 refine⟨⟨by rw[cK_];exact W.doc.1,(hk 0).trans W.doc.2.1,?_,(hg 0).trans W.doc.2.2.2⟩,fun i hi hi0=>?_,fun i q hq=>?_,fun q i hi=>?_,fun q=>?_,fun i q hq=>?_,fun i hi=>ok_ h1 h2 _ _ (W.ends i (by rw[cK_]at hi;exact hi)),fun i hi=>?_⟩
 ·rw[hP,if_neg (fun e=>h0 e.symm)];exact W.doc.2.2.1
 ·rw[hk];exact W.kinds i (by rw[cK_]at hi;exact hi) hi0
 ·rw[hP]at hq
  split at hq
  ·cases hq
  rename_i e
  obtain⟨h3,h4⟩:=W.par i q hq;rw[cK_,hK];refine⟨h3,?_⟩
  split
  ·exact(List.mem_erase_of_ne e).2 h4
  exact h4
 ·rw[hK]at hi
  have h3:i∈(nd m q).kids:=by
   split at hi
   ·exact List.mem_of_mem_erase hi
   exact hi
  obtain⟨h4,h5⟩:=W.kid q i h3;rw[cK_,hP];refine⟨h4,?_⟩
  by_cases e:i=h
  ·exfalso
   subst e;have hqp:q=p:=by rw[hp]at h5;injection h5 with h5;exact h5.symm
   subst hqp;rw[if_pos rfl]at hi;exact(W.nodup q).not_mem_erase hi
  rw[if_neg e];exact h5
 ·rw[hK]
  split
  ·exact(W.nodup q).erase h
  exact W.nodup q
 ·rw[hP]at hq
  split at hq
  ·cases hq
  rw[hg,hg];exact W.gone i q hq
 rw[hk]at hi;rw[hK,W.leaf i hi]
 split<;>rfl
def put(m:aa_)(p h i:Nat):aa_:=upd (upd m p fun x=>{ x with kids:=x.kids.take i++h :: x.kids.drop i }) h fun x=>{ x with parent:=some p }
@[simp] theorem bw_ (m:aa_) (p h i:Nat):(put m p h i).length=m.length:=by unfold put;simp
theorem bC_{m:aa_}{p h i:Nat}(h1:h<m.length)(h2:p<m.length)(j:Nat) :
  nd (put m p h i) j={ nd m j with kids:=if j=p then(nd m j).kids.take i++h :: (nd m j).kids.drop i else(nd m j).kids,parent:=if j=h then some p else(nd m j).parent }:=by
 unfold put;rw[cn_ (by simpa using h1),cn_ h2]
 by_cases e1:j=h
 ·by_cases e2:j=p
  ·simp only[if_pos e1,if_pos e2]
  simp only[if_pos e1,if_neg e2]
 by_cases e2:j=p
 ·simp only[if_neg e1,if_pos e2]
 simp only[if_neg e1,if_neg e2]
theorem WF.put{m:aa_}(W:WF m){p h i:Nat}(hr:(nd m h).parent=none)(h0:h≠0)(h1:h<m.length)(h2:p<m.length)(hc:contains m h p=false)(hd:depth m p+ay_ m h<=128)(hkp:(nd m p).kind<=2)(hgn:(nd m h).gone=(nd m p).gone):WF (put m p h i):=by
 have hk:∀j,(nd (G.put m p h i) j).kind=(nd m j).kind:=fun j=>by rw[bC_ h1 h2]
 have hP:∀j,(nd (G.put m p h i) j).parent=if j=h then some p else(nd m j).parent:=fun j=>by rw[bC_ h1 h2]
 have hK:∀j,(nd (G.put m p h i) j).kids=if j=p then(nd m j).kids.take i++h :: (nd m j).kids.drop i else(nd m j).kids:=fun j=>by rw[bC_ h1 h2]
 have hg:∀j,(nd (G.put m p h i) j).gone=(nd m j).gone:=fun j=>by rw[bC_ h1 h2]
 have hnk:∀q,h∉(nd m q).kids:=fun q hq=>by have:=(W.kid q h hq).2;rw[hr]at this;cases this
 have hmem:∀x (l:List Nat),x∈l.take i++h :: l.drop i↔x=h\/x∈l:=by
  intro x l;rw[List.mem_append,List.mem_cons];constructor
  ·rintro(h3|h3|h3)
   ·exact Or.inr (List.mem_of_mem_take h3)
   ·exact Or.inl h3
   exact Or.inr (List.mem_of_mem_drop h3)
  rintro(h3|h3)
  ·exact Or.inr (Or.inl h3)
  rw[<-List.take_append_drop i l,List.mem_append]at h3
  rcases h3 with h3|h3
  ·exact Or.inl h3
  exact Or.inr (Or.inr h3)
 -- the ways up that do not pass h stay
 have hout:∀n j,contains m h j=false->G.ends m n j->G.ends (G.put m p h i) n j:=by
  intro n
  induction n with
  |zero=>intro j _ h;exact h.elim
  |succ n ih=>
   intro j hcj he;have hj:j≠h:=fun e=>by rw[e,W.contains_self]at hcj;cases hcj
   have hq:=hP j;rw[if_neg hj]at hq
   cases hpj:(nd m j).parent with
   |none=>exact b6_ (hq.trans hpj)
   |some q=>
    rw[W.contains_step hpj,Bool.or_eq_false_iff]at hcj;exact(aZ_ (hq.trans hpj)).2 (ih q hcj.2 ((aZ_ hpj).1 he))
 have hbase:G.ends (G.put m p h i) (depth m p) p:=hout _ p hc (kc_ (W.ends p h2));have hin:∀j,contains m h j=true->∃s,s+ay_ m j<=ay_ m h/\G.ends (G.put m p h i) (s+1+depth m p) j:=by
  intro j;refine W.up_ind (P:=fun j=>contains m h j=true->∃s,s+ay_ m j<=ay_ m h/\G.ends (G.put m p h i) (s+1+depth m p) j) (fun j hpj hcj=>?_) (fun j q hpj ih hcj=>?_) j
  ·rw[W.contains_root hpj]at hcj
   have e:=beq_iff_eq.1 hcj;subst e;refine⟨0,by omega,?_⟩;rw[show 0+1+depth m p=depth m p+1 by omega];exact(aZ_ (by rw[hP,if_pos rfl])).2 hbase
  rw[W.contains_step hpj]at hcj;have hj:j≠h:=fun e=>by subst e;rw[hr]at hpj;cases hpj
  rcases Bool.or_eq_true_iff.1 hcj with h3|h3
  ·exact absurd (beq_iff_eq.1 h3).symm hj
  obtain⟨s,hs,he⟩:=ih h3;refine⟨s+1,?_,?_⟩
  ·have:=W.height_kid (W.par j q hpj).2
   omega
  rw[show s+1+1+depth m p=(s+1+depth m p)+1 by omega];exact(aZ_ (by rw[hP,if_neg hj];exact hpj)).2 he
 refine⟨⟨by rw[bw_];exact W.doc.1,(hk 0).trans W.doc.2.1,?_,(hg 0).trans W.doc.2.2.2⟩,fun j hj hj0=>?_,fun j q hq=>?_,fun q j hj=>?_,fun q=>?_,fun j q hq=>?_,fun j hj=>?_,fun j hj=>?_⟩
 ·rw[hP,if_neg (fun e=>h0 e.symm)];exact W.doc.2.2.1
 ·rw[hk];exact W.kinds j (by rw[bw_]at hj;exact hj) hj0
 ·rw[hP]at hq
  rw[bw_,hK]
  split at hq
  ·rename_i e
   have e2:p=q:=by injection hq
   subst e2 e;exact⟨h2,by rw[if_pos rfl];exact(hmem _ _).2 (Or.inl rfl)⟩
  obtain⟨h3,h4⟩:=W.par j q hq;refine⟨h3,?_⟩
  split
  ·exact(hmem _ _).2 (Or.inr h4)
  exact h4
 ·rw[hK]at hj
  rw[bw_,hP]
  split at hj
  ·rename_i e
   subst e
   rcases(hmem _ _).1 hj with e|h3
   ·subst e;exact⟨h1,by rw[if_pos rfl]⟩
   obtain⟨h4,h5⟩:=W.kid q j h3;refine⟨h4,?_⟩;rw[if_neg (fun e=>by subst e;exact hnk _ h3)];exact h5
  obtain⟨h4,h5⟩:=W.kid q j hj;refine⟨h4,?_⟩;rw[if_neg (fun e=>by subst e;exact hnk _ hj)];exact h5
 ·rw[hK]
  split
  ·have h3:=W.nodup q
   have h4:=hnk q;rw[<-List.take_append_drop i (nd m q).kids]at h3 h4;rw[List.mem_append,not_or]at h4;rw[List.nodup_append]at h3 ⊢;obtain⟨h5,h6,h7⟩:=h3;refine⟨h5,List.nodup_cons.2 ⟨h4.2,h6⟩,fun x hx y hy=>?_⟩
   rcases List.mem_cons.1 hy with e|hy
   ·subst e;intro e;subst e;exact h4.1 hx
   exact h7 x hx y hy
  exact W.nodup q
 ·rw[hP]at hq
  rw[hg,hg]
  split at hq
  ·rename_i e
   have e2:p=q:=by injection hq
   subst e2 e;exact hgn
  exact W.gone j q hq
 ·rw[bw_]at hj
  cases hcj:contains m h j with
  |false=>exact hout _ j hcj (W.ends j hj)
  |true=>
   obtain⟨s,hs,he⟩:=hin j hcj;refine iq_ he ?_;have:=W.height_pos j;omega
 rw[hk]at hj;rw[hK,W.leaf j hj]
 split
 ·rename_i e
  subst e;omega
 rfl
theorem WF.make{m:aa_}(W:WF m){x:Node}(h1:x.parent=none)(h2:x.kids=[])(h3:2<=x.kind/\x.kind<=4):WF (m++[x]):=by
 have he:∀n i,i<m.length->G.ends m n i->G.ends (m++[x]) n i:=by
  intro n
  induction n with
  |zero=>intro i _ h;exact h.elim
  |succ n ih=>
   intro i hi he;have hq:(nd (m++[x]) i).parent=(nd m i).parent:=by rw[bx_ hi]
   cases hp:(nd m i).parent with
   |none=>exact b6_ (hq.trans hp)
   |some p=>exact(aZ_ (hq.trans hp)).2 (ih p (W.lt hp).2 ((aZ_ hp).1 he))
 have hn:(m++[x]).length=m.length+1:=by simp
 have hd:=W.doc.1;refine⟨⟨by omega,by rw[bx_ hd];exact W.doc.2.1,by rw[bx_ hd];exact W.doc.2.2.1,by rw[bx_ hd];exact W.doc.2.2.2⟩,fun i hi h0=>?_,fun i p hp=>?_,fun p i hi=>?_,fun p=>?_,fun i p hp=>?_,fun i hi=>?_,fun i hi=>?_⟩
 ·rw[aK_]
  split
  ·exact h3
  exact W.kinds i (by omega) h0
 ·rw[aK_]at hp
  split at hp
  ·rw[h1]at hp;cases hp
  obtain⟨h4,h5⟩:=W.par i p hp;rw[hn,bx_ h4];exact⟨by omega,h5⟩
 ·rw[aK_]at hi
  split at hi
  ·rw[h2]at hi;cases hi
  obtain⟨h4,h5⟩:=W.kid p i hi;rw[hn,bx_ h4];exact⟨by omega,h5⟩
 ·rw[aK_]
  split
  ·rw[h2];exact List.nodup_nil
  exact W.nodup p
 ·rw[aK_]at hp
  split at hp
  ·rw[h1]at hp;cases hp
  obtain⟨h4,h5⟩:=W.lt hp;rw[bx_ h4,bx_ h5];exact W.gone i p hp
 ·rcases Nat.lt_or_ge i m.length with h4|h4
  ·exact he _ i h4 (W.ends i h4)
  have e:i=m.length:=by omega
  subst e;exact b6_ (by rw[h2_];exact h1)
 rw[aK_]at hi ⊢
 split
 ·exact h2
 rename_i e
 rw[if_neg e]at hi;exact W.leaf i hi
def drop(m:aa_)(h:Nat):aa_:=m.mapIdx fun i x=>{ x with gone:=x.gone || (walk m h).contains i }
@[simp] theorem dd_ (m:aa_) (h:Nat):(drop m h).length=m.length:=by unfold drop;simp
theorem fY_{m:aa_}{h:Nat}(j:Nat)(hj:j<m.length):nd (drop m h) j={ nd m j with gone:=(nd m j).gone || (walk m h).contains j }:=by
 unfold nd drop;rw[List.getD_eq_getElem?_getD,List.getD_eq_getElem?_getD,List.getElem?_mapIdx];simp[hj]
theorem WF.drop{m:aa_}(W:WF m){h:Nat}(hr:(nd m h).parent=none)(h0:h≠0):WF (drop m h):=by
 have hf:∀j,(nd (G.drop m h) j).kind=(nd m j).kind/\(nd (G.drop m h) j).parent=(nd m j).parent/\(nd (G.drop m h) j).kids=(nd m j).kids:=by
  intro j
  rcases Nat.lt_or_ge j m.length with hj|hj
  ·rw[fY_ j hj];exact⟨rfl,rfl,rfl⟩
  rw[c1_ hj,c1_ (by rw[dd_];exact hj)];exact⟨rfl,rfl,rfl⟩
 have hg:∀j,j<m.length->(nd (G.drop m h) j).gone=((nd m j).gone || contains m h j):=by
  intro j hj;rw[fY_ j hj];show((nd m j).gone || (walk m h).contains j)=_
  congr 1
  rw[Bool.eq_iff_iff,List.contains_iff_mem];exact W.mem_walk h hj
 have hs:∀n i,G.ends m n i->G.ends (G.drop m h) n i:=by
  intro n
  induction n with
  |zero=>intro i h;exact h.elim
  |succ n ih=>
   intro i he
   cases hp:(nd m i).parent with
   |none=>exact b6_ ((hf i).2.1.trans hp)
   |some p=>exact(aZ_ ((hf i).2.1.trans hp)).2 (ih p ((aZ_ hp).1 he))
 refine⟨⟨by rw[dd_];exact W.doc.1,(hf 0).1.trans W.doc.2.1,(hf 0).2.1.trans W.doc.2.2.1,?_⟩,fun i hi hi0=>?_,fun i p hp=>?_,fun p i hi=>?_,fun p=>?_,fun i p hp=>?_,fun i hi=>hs _ _ (W.ends i (by rw[dd_]at hi;exact hi)),fun i hi=>?_⟩
 ·rw[hg 0 W.doc.1,W.doc.2.2.2,W.contains_root W.doc.2.2.1]
  simp[h0]
 ·rw[(hf i).1];exact W.kinds i (by rw[dd_]at hi;exact hi) hi0
 ·rw[(hf i).2.1]at hp;rw[dd_,(hf p).2.2];exact W.par i p hp
 ·rw[(hf p).2.2]at hi;rw[dd_,(hf i).2.1];exact W.kid p i hi
 ·rw[(hf p).2.2];exact W.nodup p
 ·rw[(hf i).2.1]at hp
  obtain⟨h1,h2⟩:=W.lt hp;rw[hg i h1,hg p h2,W.gone i p hp,W.contains_step hp];have hne:(h==i)=false:=by
   rw[beq_eq_false_iff_ne];intro e;subst e;rw[hr]at hp
   cases hp
  rw[hne,Bool.false_or]
 rw[(hf i).1]at hi;rw[(hf i).2.2];exact W.leaf i hi
end G
end
section
open Go.RowKit
namespace H
theorem aN_(l:List UInt8):(⟨l.toArray⟩:ByteArray).size=l.length:=by show l.toArray.size=_;simp
theorem ap_{a b:Bool}(h:a=b):Ending.returned (.bool a)=.returned (.bool b):=by rw[h]
theorem lV_{k:IntKind}{a b:Int}(h:a=b):Ending.returned (.int k a)=.returned (.int k b):=by rw[h]
theorem a0_{B b o:Nat}{a w:World}{v:Value}(h:Below B a w)(hb:B<=b):Below B a (w.setCell ⟨b,o,none⟩ v):=h.setCell hb v
theorem ae_{w:World}{b:Nat}{cs:Array Value}{t:TypeId}(h:w.heap[b]?=some (.cells cs t (0,0))):(∀o,w.cell? ⟨b,o,none⟩=cs[o]?)/\(∀o,o<cs.size->w.frozen? ⟨b,o,none⟩=false):=by
 refine⟨fun o=>by simp[World.cell?,h],fun o ho=>by simp[World.frozen?,h]⟩
theorem nh_{w:World}{b o:Nat}{cs:Array Value}{t:TypeId}{f:Nat×Nat}{v:Value}(h:w.heap[b]?=some (.cells cs t f)):(w.setCell ⟨b,o,none⟩ v).heap[b]?=some (.cells (cs.setIfInBounds o v) t f):=by
 have hlt:=lt_of_block h;have h':w.heap[b]=.cells cs t f:=by simpa[Array.getElem?_eq_getElem hlt]using h
 show(w.heap.modify b _)[b]?=_;rw[Array.getElem?_eq_getElem (by simpa using hlt),Array.getElem_modify_self,h'];rfl
theorem nQ_{P:Program}{f:FuncId}{args:Array Value}{w:World}{n:Nat}{v:Value}
  (h:Calls P f args (w.drewN n) fun e w'=>e=.returned v/\w.drewN n=w'):Calls P f args (w.drewN n) fun e w''=>e=.returned v/\∃m,w''=w.drewN m:=
 h.mono fun _ _ hh=>⟨hh.1,n,hh.2.symm⟩
end H
end
section
open Go.RowKit
namespace T
end T
end
section
namespace G
theorem du_{m m':aa_}(hl:m.length=m'.length)(h:∀i,nd m i=nd m' i):m=m':=by
 refine List.ext_getElem hl fun i h1 h2=>?_;have:=h i
 rwa [nY_ h1,nY_ h2]at this
def addc(m:aa_)(x:Node):Option Nat->aa_
 |none=>m++[{ x with parent:=none }]
 |some p=>upd (m++[{ x with parent:=some p }]) p fun y=>{ y with kids:=y.kids++[m.length] }
def bare(x:Node):Node:=⟨x.kind,x.name,x.attrs,x.data,none,[],false⟩
def copyN:Nat->aa_->Nat->Option Nat->Bool->aa_
 |0,m,_,_,_=>m
 |n+1,m,h,par,deep=>
  if deep then(nd m h).kids.foldl (fun m' c=>copyN n m' c (some m.length) true) (addc m (bare (nd m h)) par)
  else addc m (bare (nd m h)) par
def copyT:Nat->aa_->Nat->Bool->aa_
 |0,m,_,_=>m
 |n+1,m,h,deep=>
  if deep then(nd m h).kids.foldl (fun m' c=>put (copyT n m' c true) m.length m'.length (nd (copyT n m' c true) m.length).kids.length) (m++[bare (nd m h)])
  else m++[bare (nd m h)]
theorem dg_(m:aa_)(x:Node)(par:Option Nat):(addc m x par).length=m.length+1:=by
 cases par<;>simp[addc]
theorem oK_{m:aa_}{x:Node}{p:Nat}(hp:p<m.length):addc m x (some p)=put (addc m x none) p m.length (nd m p).kids.length:=by
 have hz:(m++[{ x with parent:=none }]).length=m.length+1:=by simp
 have hz2:(m++[{ x with parent:=some p }]).length=m.length+1:=by simp
 refine du_ (by simp[addc]) fun i=>?_;unfold addc;dsimp only;rw[bC_ (by omega) (by omega),cn_ (by omega),aK_,aK_]
 by_cases e1:i=p
 ·have e2:¬i=m.length:=by omega
  have e3:¬p=m.length:=by omega
  rw[if_pos e1,if_neg e2,if_neg e2];simp[e1,e3]
 by_cases e2:i=m.length
 ·rw[if_neg e1,if_pos e2,if_pos e2]
  simp[e1,e2];intro e;omega
 rw[if_neg e1,if_neg e2,if_neg e2];simp[e1,e2]
theorem l0_{m:aa_}{x:Node}{p k L:Nat}(hp:p<m.length)(hk:k<m.length):put (m++[x]) p k L=put m p k L++[x]:=by
 have hz:(m++[x]).length=m.length+1:=by simp
 refine du_ (by simp) fun i=>?_;rw[bC_ (by omega) (by omega),aK_,aK_,bw_]
 by_cases e:i=m.length
 ·have e1:¬m.length=p:=by omega
  have e2:¬m.length=k:=by omega
  simp[e,e1,e2]
 simp only[if_neg e];rw[bC_ hk hp]
theorem nR_{m:aa_}{x:Node}{p k L:Nat}{par:Option Nat}(hp:p<m.length)(hk:k<m.length)(hq:∀q,par=some q->q<m.length/\q≠p):addc (put m p k L) x par=put (addc m x par) p k L:=by
 cases par with
 |none=>unfold addc;dsimp only;rw[l0_ hp hk]
 |some q=>
  obtain⟨h1,h2⟩:=hq q rfl;unfold addc;dsimp only;rw[<-l0_ hp hk,bw_];have hz:(m++[{ x with parent:=some q }]).length=m.length+1:=by simp
  refine du_ (by simp) fun i=>?_;rw[cn_ (by rw[bw_];omega),bC_ (by omega) (by omega),bC_ (by rw[cV_];omega) (by rw[cV_];omega),cn_ (by omega)]
  by_cases e1:i=q
  ·have e2:¬i=p:=fun e=>h2 (e1.symm.trans e)
   simp only[if_pos e1,if_neg e2]
  simp only[if_neg e1]
def Low(B:Nat)(m:aa_):Prop:=∀i,i<B->∀c,c∈(nd m i).kids->c<B
theorem e7_{m:aa_}{x:Node}{par:Option Nat}{i:Nat}(hi:i<m.length)(hq:∀q,par=some q->q<m.length/\i≠q):nd (addc m x par) i=nd m i:=by
 cases par with
 |none=>unfold addc;exact bx_ hi
 |some q=>
  obtain⟨h1,h2⟩:=hq q rfl;unfold addc;dsimp only;rw[l5_ (by simp;omega) h2];exact bx_ hi
def low(m:aa_):Nat->Nat->Prop
 |0,_=>False
 |n+1,h=>∀c,c∈(nd m h).kids->low m n c
theorem dG_{B:Nat}{m m':aa_}(hL:Low B m)(hk:∀i,i<B->nd m' i=nd m i):∀{n h:Nat},h<B->low m n h->low m' n h
 |0,_,_,h=>h.elim
 |n+1,h,hh,hw=>fun c hc=>by
  rw[hk h hh]at hc;exact dG_ hL hk (hL h hh c hc) (hw c hc)
theorem WF.low{m:aa_}(W:WF m):∀(n h:Nat),129<=depth m h+n->G.low m n h
 |0,h,hn=>by have:=W.depth_le h;omega
 |n+1,h,hn=>fun c hc=>WF.low W n c (by have:=W.depth_step (W.kid h c hc).2;omega)
theorem cB_:∀(n:Nat) (m:aa_) (h:Nat) (par:Option Nat) (deep:Bool) (B:Nat),B<=m.length->Low B m->h<B->(∀q,par=some q->q<m.length/\B<=q) →
  m.length<=(copyN n m h par deep).length/\(∀i,i<B->nd (copyN n m h par deep) i=nd m i)
 |0,m,h,par,deep,B,hB,hL,hh,hq=>⟨nl_,fun i hi=>rfl⟩
 |n+1,m,h,par,deep,B,hB,hL,hh,hq=>by
  have h1:∀i,i<B->nd (addc m (bare (nd m h)) par) i=nd m i:=fun i hi=>e7_ (by omega) (fun q hq'=>⟨(hq q hq').1,by have:=(hq q hq').2;omega⟩);have hl:=dg_ m (bare (nd m h)) par;rw[copyN]
  cases deep with
  |false=>exact⟨by simp only[Bool.false_eq_true,if_false];omega,fun i hi=>by simp only[Bool.false_eq_true,if_false];exact h1 i hi⟩
  |true=>
   simp only [if_true]; have hf : ∀ (l : List Nat) (m' : aa_), (∀ c ∈ l, c < B) → m.length + 1 ≤ m'.length → (∀ i, i < B → nd m' i = nd m i) →
     m'.length<=(l.foldl (fun m' c=>copyN n m' c (some m.length) true) m').length/\∀i,i<B->nd (l.foldl (fun m' c=>copyN n m' c (some m.length) true) m') i=nd m i:=by
    intro l
    induction l with
    |nil=>exact fun m' _ _ h=>⟨nl_,h⟩
    |cons c t ih=>
     intro m' hc hm' hk;obtain⟨a1,a2⟩:=cB_ n m' c (some m.length) true B (by omega) (fun i hi c hc=>by rw[hk i hi]at hc;exact hL i hi c hc) (hc c (by simp)) (fun q hq'=>by injection hq' with e;subst e;exact⟨by omega,hB⟩);obtain⟨b1,b2⟩:=ih (copyN n m' c (some m.length) true) (fun d hd=>hc d (by simp[hd])) (by omega) (fun i hi=>(a2 i hi).trans (hk i hi));exact⟨by rw[List.foldl_cons];omega,by rw[List.foldl_cons];exact b2⟩
   obtain⟨c1,c2⟩:=hf (nd m h).kids (addc m (bare (nd m h)) par) (fun c hc=>hL h hh c hc) (by omega) h1;exact⟨by omega,c2⟩
theorem kE_{B:Nat}{m:aa_}{p k L i:Nat}(hp:p<m.length)(hk:k<m.length)(hpB:B<=p)(hkB:B<=k)(hi:i<B):nd (put m p k L) i=nd m i:=by
 rw[bC_ hk hp,if_neg (by omega),if_neg (by omega)]
theorem iD_:∀(n:Nat) (m:aa_) (h:Nat) (par:Option Nat) (deep:Bool) (B p k L:Nat),B<=m.length->Low B m->h<B->B<=p->B<=k->p<m.length->k<m.length->(∀q,par=some q->q<m.length/\B<=q/\q≠p) →
  copyN n (put m p k L) h par deep=put (copyN n m h par deep) p k L
 |0,m,h,par,deep,B,p,k,L,hB,hL,hh,hpB,hkB,hp,hk,hq=>rfl
 |n+1,m,h,par,deep,B,p,k,L,hB,hL,hh,hpB,hkB,hp,hk,hq=>by
  have e1:nd (put m p k L) h=nd m h:=kE_ hp hk hpB hkB hh;have hl:=dg_ m (bare (nd m h)) par;rw[copyN,copyN,e1,bw_,nR_ hp hk (fun q hq'=>⟨(hq q hq').1,(hq q hq').2.2⟩)]
  cases deep with
  |false=>rfl
  |true=>
   simp only [if_true]; have hf : ∀ (l : List Nat) (m' : aa_), (∀ c ∈ l, c < B) → m.length + 1 ≤ m'.length → Low B m' →
     l.foldl (fun m' c=>copyN n m' c (some m.length) true) (put m' p k L)=put (l.foldl (fun m' c=>copyN n m' c (some m.length) true) m') p k L:=by
    intro l
    induction l with
    |nil=>exact fun m' _ _ _=>rfl
    |cons c t ih=>
     intro m' hc hm' hL';have hqq:∀q,some m.length=some q->q<m'.length/\B<=q:=fun q hq'=>by injection hq' with e;subst e;exact⟨by omega,hB⟩
     obtain⟨a1,a2⟩:=cB_ n m' c (some m.length) true B (by omega) hL' (hc c (by simp)) hqq;rw[List.foldl_cons,List.foldl_cons,iD_ n m' c (some m.length) true B p k L (by omega) hL' (hc c (by simp)) hpB hkB (by omega) (by omega) (fun q hq'=>⟨(hqq q hq').1,(hqq q hq').2,by injection hq' with e;omega⟩)];exact ih _ (fun d hd=>hc d (by simp[hd])) (by omega) (fun i hi c hc=>by rw[a2 i hi]at hc;exact hL' i hi c hc)
   refine hf _ _ (fun c hc=>hL h hh c hc) (by omega) (fun i hi c hc=>?_);rw[e7_ (by omega) (fun q hq'=>⟨(hq q hq').1,by have:=(hq q hq').2.1;omega⟩)]at hc;exact hL i hi c hc
theorem ll_:∀(n:Nat) (m:aa_) (h:Nat) (deep:Bool) (B k:Nat),B<=m.length->Low B m->h<B->B<=k->k<m.length->(nd (copyN n m h none deep) k).kids=(nd m k).kids:=by
 have key:∀(n:Nat) (m:aa_) (h:Nat) (par:Option Nat) (deep:Bool) (B k:Nat),B<=m.length->Low B m->h<B->B<=k->k<m.length->(∀q,par=some q->q<m.length/\B<=q/\q≠k)->(nd (copyN n m h par deep) k).kids=(nd m k).kids:=by
  intro n
  induction n with
  |zero=>intros;rfl
  |succ n ihn=>
   intro m h par deep B k hB hL hh hkB hk hq;have e1:nd (addc m (bare (nd m h)) par) k=nd m k:=e7_ hk (fun q hq'=>⟨(hq q hq').1,fun e=>(hq q hq').2.2 e.symm⟩);have hl:=dg_ m (bare (nd m h)) par;rw[copyN]
   cases deep with
   |false=>simp only[Bool.false_eq_true,if_false];rw[e1]
   |true=>
    simp only [if_true]; have hf : ∀ (l : List Nat) (m' : aa_), (∀ c ∈ l, c < B) → m.length + 1 ≤ m'.length → Low B m' →
      (nd (l.foldl (fun m' c=>copyN n m' c (some m.length) true) m') k).kids=(nd m' k).kids:=by
     intro l
     induction l with
     |nil=>exact fun m' _ _ _=>rfl
     |cons c t ih=>
      intro m' hc hm' hL';have hqq:∀q,some m.length=some q->q<m'.length/\B<=q:=fun q hq'=>by injection hq' with e;subst e;exact⟨by omega,hB⟩
      obtain⟨a1,a2⟩:=cB_ n m' c (some m.length) true B (by omega) hL' (hc c (by simp)) hqq;rw[List.foldl_cons,ih _ (fun d hd=>hc d (by simp[hd])) (by omega) (fun i hi c hc=>by rw[a2 i hi]at hc;exact hL' i hi c hc)];exact ihn m' c (some m.length) true B k (by omega) hL' (hc c (by simp)) hkB (by omega) (fun q hq'=>⟨(hqq q hq').1,(hqq q hq').2,by injection hq' with e;omega⟩)
    rw[hf _ _ (fun c hc=>hL h hh c hc) (by omega) (fun i hi c hc=>by
     rw[e7_ (by omega) (fun q hq'=>⟨(hq q hq').1,by have:=(hq q hq').2.1;omega⟩)]at hc;exact hL i hi c hc),e1]
 exact fun n m h deep B k hB hL hh hkB hk=>key n m h none deep B k hB hL hh hkB hk (fun q hq=>by cases hq)
theorem lk_(n:Nat)(m:aa_)(h p:Nat)(deep:Bool)(B:Nat)(hn:0<n)(hB:B<=m.length)(hL:Low B m)(hh:h<B)(hpB:B<=p)(hp:p<m.length) :
  copyN n m h (some p) deep=put (copyN n m h none deep) p m.length (nd m p).kids.length:=by
 cases n with
 |zero=>omega
 |succ n=>
  have hl:=dg_ m (bare (nd m h)) none;rw[copyN,copyN,oK_ hp]
  cases deep with
  |false=>rfl
  |true=>
   simp only [if_true]; have hf : ∀ (l : List Nat) (m' : aa_), (∀ c ∈ l, c < B) → m.length + 1 ≤ m'.length → Low B m' →
     l.foldl (fun m' c=>copyN n m' c (some m.length) true) (put m' p m.length (nd m p).kids.length)=put (l.foldl (fun m' c=>copyN n m' c (some m.length) true) m') p m.length (nd m p).kids.length:=by
    intro l
    induction l with
    |nil=>exact fun m' _ _ _=>rfl
    |cons c t ih=>
     intro m' hc hm' hL';have hqq:∀q,some m.length=some q->q<m'.length/\B<=q:=fun q hq'=>by injection hq' with e;subst e;exact⟨by omega,hB⟩
     obtain⟨a1,a2⟩:=cB_ n m' c (some m.length) true B (by omega) hL' (hc c (by simp)) hqq;rw[List.foldl_cons,List.foldl_cons,iD_ n m' c (some m.length) true B p m.length _ (by omega) hL' (hc c (by simp)) hpB hB (by omega) (by omega) (fun q hq'=>⟨(hqq q hq').1,(hqq q hq').2,by injection hq' with e;omega⟩)];exact ih _ (fun d hd=>hc d (by simp[hd])) (by omega) (fun i hi c hc=>by rw[a2 i hi]at hc;exact hL' i hi c hc)
   refine hf _ _ (fun c hc=>hL h hh c hc) (by omega) (fun i hi c hc=>?_);rw[e7_ (by omega) (fun q hq'=>by cases hq')]at hc;exact hL i hi c hc
theorem ki_:∀(n:Nat) (m:aa_) (h:Nat) (deep:Bool) (B:Nat),B<=m.length->Low B m->h<B->low m n h->copyT n m h deep=copyN n m h none deep
 |0,m,h,deep,B,hB,hL,hh,hw=>rfl
 |n+1,m,h,deep,B,hB,hL,hh,hw=>by
  rw[copyT,copyN]
  cases deep with
  |false=>rfl
  |true=>
   simp only [if_true]; have hl := dg_ m (bare (nd m h)) none; have hf : ∀ (l : List Nat) (m' : aa_), (∀ c ∈ l, c < B ∧ low m n c) → m.length + 1 ≤ m'.length → (∀ i, i < B → nd m' i = nd m i) →
     l.foldl (fun m' c=>put (copyT n m' c true) m.length m'.length (nd (copyT n m' c true) m.length).kids.length) m'=l.foldl (fun m' c=>copyN n m' c (some m.length) true) m':=by
    intro l
    induction l with
    |nil=>exact fun m' _ _ _=>rfl
    |cons c t ih=>
     intro m' hc hm' hk;have hL':Low B m':=fun i hi c hc=>by rw[hk i hi]at hc;exact hL i hi c hc
     obtain⟨hcB,hcw⟩:=hc c (by simp);have hcw':low m' n c:=dG_ hL hk hcB hcw;have hn:0<n:=by
      cases n with
      |zero=>exact hcw.elim
      |succ n=>omega
     have hqq:∀q,some m.length=some q->q<m'.length/\B<=q:=fun q hq'=>by injection hq' with e;subst e;exact⟨by omega,hB⟩
     have hT:=ki_ n m' c true B (by omega) hL' hcB hcw';have hkl:(nd (copyN n m' c none true) m.length).kids=(nd m' m.length).kids:=ll_ n m' c true B m.length (by omega) hL' hcB hB (by omega);obtain⟨a1,a2⟩:=cB_ n m' c (some m.length) true B (by omega) hL' hcB hqq;rw[List.foldl_cons,List.foldl_cons,hT,hkl,<-lk_ n m' c m.length true B hn (by omega) hL' hcB hB (by omega)];exact ih _ (fun d hd=>hc d (by simp[hd])) (by omega) (fun i hi=>(a2 i hi).trans (hk i hi))
   exact hf _ _ (fun c hc=>⟨hL h hh c hc,hw c hc⟩) (by rw[<-hl];exact nl_) (fun i hi=>bx_ (by omega))
def cmpL:List Nat->List Nat->Int
 |[],[]=>0
 |[],_ :: _=>-1
 |_ :: _,[]=>1
 |a :: x,b :: y=>if a<b then -1 else if b<a then 1 else cmpL x y
theorem dU_:∀l,cmpL l l=0
 |[]=>rfl
 |a :: l=>by rw[cmpL,if_neg (Nat.lt_irrefl _),if_neg (Nat.lt_irrefl _)];exact dU_ l
theorem d9_(p x y:List Nat):cmpL (p++x) (p++y)=cmpL x y:=by
 induction p with
 |nil=>rfl
 |cons a p ih=>rw[List.cons_append,List.cons_append,cmpL,if_neg (Nat.lt_irrefl _),if_neg (Nat.lt_irrefl _),ih]
theorem hE_:∀x y,cmpL y x=- cmpL x y
 |[],[]=>rfl
 |[],_ :: _=>rfl
 |_ :: _,[]=>rfl
 |a :: x,b :: y=>by
  rw[cmpL,cmpL,hE_ x y]
  by_cases h1:a<b
  ·have h2:¬b<a:=by omega
   simp[h1,h2]
  by_cases h2:b<a
  ·simp[h1,h2]
  simp[h1,h2]
theorem ff_:∀x y,cmpL x y=-1\/cmpL x y=0\/cmpL x y=1
 |[],[]=>Or.inr (Or.inl rfl)
 |[],_ :: _=>Or.inl rfl
 |_ :: _,[]=>Or.inr (Or.inr rfl)
 |a :: x,b :: y=>by
  rw[cmpL]
  split
  ·exact Or.inl rfl
  split
  ·exact Or.inr (Or.inr rfl)
  exact ff_ x y
theorem kl_{f:Nat->Nat}(hf:∀a b,a<b->f a<f b):∀x y,cmpL (x.map f) (y.map f)=cmpL x y
 |[],[]=>rfl
 |[],_ :: _=>rfl
 |_ :: _,[]=>rfl
 |a :: x,b :: y=>by
  rw[List.map_cons,List.map_cons,cmpL,cmpL,kl_ hf x y]
  by_cases h1:a<b
  ·rw[if_pos h1,if_pos (hf _ _ h1)]
  by_cases h2:b<a
  ·have h3:=hf _ _ h2
   rw[if_neg (by omega),if_pos h3,if_neg h1,if_pos h2]
  have e:a=b:=by omega
  subst e;rw[if_neg (Nat.lt_irrefl _),if_neg (Nat.lt_irrefl _),if_neg h1,if_neg h2]
theorem ea_:∀(x y s t:List Nat),¬x <+: y->¬y <+: x->cmpL (x++s) (y++t)=cmpL x y
 |[],_,_,_,h,_=>absurd (List.nil_prefix) h
 |_ :: _,[],_,_,_,h=>absurd (List.nil_prefix) h
 |a :: x,b :: y,s,t,h1,h2=>by
  rw[List.cons_append,List.cons_append,cmpL,cmpL]
  by_cases e:a=b
  ·subst e
   rw[if_neg (Nat.lt_irrefl _),if_neg (Nat.lt_irrefl _),if_neg (Nat.lt_irrefl _),if_neg (Nat.lt_irrefl _)];exact ea_ x y s t (fun h=>h1 ((List.prefix_cons_inj a).2 h)) (fun h=>h2 ((List.prefix_cons_inj a).2 h))
  by_cases h3:a<b
  ·rw[if_pos h3,if_pos h3]
  rw[if_neg h3,if_neg h3,if_pos (by omega),if_pos (by omega)]
theorem dB_{x:Nat}:∀{l:List Nat},x∈l->l[l.idxOf x]?=some x
 |[],h=>by cases h
 |a :: l,h=>by
  rw[List.idxOf_cons]
  by_cases e:a=x
  ·subst e;simp
  have h2:x∈l:=by
   rcases List.mem_cons.1 h with h|h
   ·exact absurd h.symm e
   exact h
  have e2:(a==x)=false:=bn_ e;rw[e2];simpa using dB_ h2
def en_(m:aa_):Nat->Nat->List Nat
 |0,_=>[]
 |n+1,h=>match (nd m h).parent with|none=>[]|some p=>en_ m n p++[(nd m p).kids.idxOf h]
def pidx(m:aa_)(h:Nat):List Nat:=en_ m 128 h
theorem hY_{m:aa_}:∀{n k h:Nat},ends m n h->n<=k->en_ m k h=en_ m n h
 |0,_,_,h,_=>h.elim
 |n+1,0,_,_,hk=>by omega
 |n+1,k+1,h,he,hk=>by
  rw[en_,en_]
  cases hp:(nd m h).parent with
  |none=>rfl
  |some p=>dsimp only;rw[hY_ ((aZ_ hp).1 he) (by omega)]
theorem ba_{m:aa_}{h:Nat}(hp:(nd m h).parent=none):pidx m h=[]:=by
 show en_ m (127+1) h=_;rw[en_,hp]
theorem WF.pidx_step{m:aa_}(W:WF m){h p:Nat}(hp:(nd m h).parent=some p):pidx m h=pidx m p++[(nd m p).kids.idxOf h]:=by
 have h3:G.ends m 127 p:=(aZ_ hp).1 (W.ends h (W.lt hp).1);have e:en_ m (127+1) h=en_ m 127 p++[(nd m p).kids.idxOf h]:=by rw[en_,hp]
 refine Eq.trans e ?_;rw[<-hY_ h3 (by omega:127<=128)];rfl
theorem WF.pidx_inj{m:aa_}(W:WF m)(a:Nat):∀b,top m a=top m b->pidx m a=pidx m b->a=b:=by
 refine W.up_ind (P:=fun a=>∀b,top m a=top m b->pidx m a=pidx m b->a=b) (fun a ha b ht hp=>?_) (fun a p ha ih b ht hp=>?_) a
 ·rw[ba_ ha]at hp
  cases hb:(nd m b).parent with
  |none=>rw[W.top_root ha,W.top_root hb]at ht;exact ht
  |some q=>rw[W.pidx_step hb]at hp;exact absurd hp.symm (by simp)
 cases hb:(nd m b).parent with
 |none=>rw[W.pidx_step ha,ba_ hb]at hp;exact absurd hp (by simp)
 |some q=>
  rw[W.pidx_step ha,W.pidx_step hb]at hp;obtain⟨e1,e2⟩:=List.append_inj' hp rfl;have hpq:p=q:=ih q (by rw[W.top_step ha,W.top_step hb]at ht;exact ht) e1;subst hpq;injection e2 with e2
  have h1:=(W.par a p ha).2;have h2:=(W.par b p hb).2;have g1:(nd m p).kids[(nd m p).kids.idxOf a]?=some a:=dB_ h1;have g2:(nd m p).kids[(nd m p).kids.idxOf b]?=some b:=dB_ h2;rw[e2,g2]at g1;injection g1 with g1
  exact g1.symm
theorem WF.pidx_contains{m:aa_}(W:WF m){a:Nat}(b:Nat)(h:contains m a b=true):pidx m a <+: pidx m b/\top m a=top m b:=by
 revert h
 refine W.up_ind (P:=fun b=>contains m a b=true->pidx m a <+: pidx m b/\top m a=top m b) (fun b hb h=>?_) (fun b p hb ih h=>?_) b
 ·rw[W.contains_root hb]at h
  have e:=beq_iff_eq.1 h;subst e;exact⟨List.prefix_rfl,rfl⟩
 rw[W.contains_step hb]at h
 rcases Bool.or_eq_true_iff.1 h with h|h
 ·have e:=beq_iff_eq.1 h
  subst e;exact⟨List.prefix_rfl,rfl⟩
 obtain⟨h1,h2⟩:=ih h;exact⟨h1.trans (by rw[W.pidx_step hb];exact List.prefix_append _ _),by rw[h2,W.top_step hb]⟩
theorem WF.contains_pidx{m:aa_}(W:WF m){a:Nat}(b:Nat):top m a=top m b->pidx m a <+: pidx m b->contains m a b=true:=by
 refine W.up_ind (P:=fun b=>top m a=top m b->pidx m a <+: pidx m b->contains m a b=true) (fun b hb ht h=>?_) (fun b p hb ih ht h=>?_) b
 ·rw[ba_ hb]at h
  have e:=W.pidx_inj a b ht (by rw[ba_ hb];exact List.prefix_nil.1 h);subst e;exact W.contains_self a
 rw[W.contains_step hb,Bool.or_eq_true_iff];rw[W.pidx_step hb]at h
 rcases List.prefix_concat_iff.1 h with h|h
 ·left
  exact beq_iff_eq.2 (W.pidx_inj a b ht (by rw[h,W.pidx_step hb]))
 right;exact ih (by rw[ht,W.top_step hb]) h
def sizeOf(m:aa_)(h:Nat):Nat:=if 2<(nd m h).kind then(U.pts (nd m h).data).length else(nd m h).kids.length
def odd(i:Nat):Nat:=2*i+1
def cg_(m:aa_)(p:Nat×Nat):List Nat:=(pidx m p.1).map odd++[2*p.2]
def ef_(m:aa_)(p:Nat×Nat):Prop:=p.1<m.length/\p.2<=sizeOf m p.1
end G
end
section
open Go.RowKit
namespace H
def Blk(g:Nat)(cs:Array Value)(t:TypeId)(w:World):Prop:=w.heap[g]?=some (.cells cs t (0,0))
section
variable {g b:Nat} {cs:Array Value} {t:TypeId} {w w':World}
theorem Blk.lt(h:Blk g cs t w):g<w.heap.size:=lt_of_block h
theorem Blk.below(h:Blk g cs t w)(hb:Below w.heap.size w w'):Blk g cs t w':=(hb.block g (lt_of_block h)).trans h
theorem Blk.set(h:Blk g cs t w)(o:Nat)(v:Value):Blk g (cs.setIfInBounds o v) t (w.setCell ⟨g,o,none⟩ v):=nh_ h
theorem Blk.far(h:Blk g cs t w){k:Nat}(hne:g≠k)(o:Nat)(v:Value):Blk g cs t (w.setCell ⟨k,o,none⟩ v):=(Below.heap_setCell w ⟨k,o,none⟩ v g hne).trans h
theorem Blk.new(w:World)(cs:Array Value)(t:TypeId):Blk w.heap.size cs t (w.alloc (.cells cs t)):=heap_alloc_new w _
theorem Blk.alloc(h:Blk g cs t w)(o:Obj):Blk g cs t (w.alloc o):=(Below.heap_alloc w o g (lt_of_block h)).trans h
end
end H
end
section
open Go.RowKit
namespace T
theorem sz_at(l:List UInt8)(k:Nat):U.sz (l.drop k) =
  if U.rng l k 0 127 then 1
  else if U.rng l k 194 223 && tl l (k+1) 1 then 2
  else if U.rng l k 224 239 && (U.bR_ (l.drop k) && tl l (k+2) 1)then 3
  else if U.rng l k 240 244 && (U.bR_ (l.drop k) && tl l (k+2) 2)then 4
  else 0:=by
 unfold U.sz;simp only[jL_,Nat.add_zero,tl,Bool.true_and]
theorem fP_{l:List UInt8}{k lo hi lo' hi':Nat}(h:U.rng l k lo hi=true)(hd:hi<lo'):U.rng l k lo' hi'=false:=by
 rw[Bool.eq_false_iff];intro e;rw[U.a9_]at h e;omega
theorem gU_{s:ByteArray}{k lo hi:Nat}(h:U.rng s.data.toList k lo hi=true):k<s.size:=by
 rw[U.a9_]at h;simpa using h.1
theorem size0(s:ByteArray)(k:Nat)(w:World)(hs:s.size<=140737488351232)(hk:k<=s.size)(e0:U.rng s.data.toList k 0 127=true) :
  Calls Tryz.prog 105 #[.string s,.int .i64 k] w fun e w'=>e=.returned (.int .i64 1)/\w=w':=by
 have c0:=fun W=>bL_ s (k:Int) 0 127 W hs (by omega);rw[Int.toNat_natCast,e0]at c0;have C0:=hi_ c0;clear c0 e0
 go_enter Tryz.func105,Tryz.ntmps105
 go_wp2_with fail
 refine(C0.out _).mono ?_;rintro e w' ⟨rfl,rfl⟩;go_wp2_with fail
 go_ret
 exact⟨rfl,rfl⟩
theorem size1(s:ByteArray)(k:Nat)(w:World)(hs:s.size<=140737488351232)(hk:k<=s.size)(e0:U.rng s.data.toList k 0 127=false)(e1:U.rng s.data.toList k 194 223=true)(e2:tl s.data.toList (k+1) 1=true) :
  Calls Tryz.prog 105 #[.string s,.int .i64 k] w fun e w'=>e=.returned (.int .i64 2)/\w=w':=by
 have c0:=fun W=>bL_ s (k:Int) 0 127 W hs (by omega);rw[Int.toNat_natCast,e0]at c0;have c1:=fun W=>bL_ s (k:Int) 194 223 W hs (by omega);rw[Int.toNat_natCast,e1]at c1;have c2:=fun W=>e4_ s ((k:Int)+1) 1 W hs (by omega) (by omega) (by omega);rw[show((k:Int)+1).toNat=k+1 from by omega,e2]at c2;have C0:=hi_ c0;have C1:=hi_ c1;have C2:=hi_ c2;clear c2 e2 c1 e1 c0 e0
 go_enter Tryz.func105,Tryz.ntmps105
 go_wp2_with fail
 refine(C0.out _).mono ?_;rintro e w' ⟨rfl,rfl⟩;go_wp2_with fail
 refine(C1.out _).mono ?_;rintro e w' ⟨rfl,rfl⟩;go_wp2_with fail
 refine(C2.out _).mono ?_;rintro e w' ⟨rfl,rfl⟩;go_wp2_with fail
 go_ret
 exact⟨rfl,rfl⟩
theorem size2(s:ByteArray)(k:Nat)(w:World)(hs:s.size<=140737488351232)(hk:k<=s.size)(e0:U.rng s.data.toList k 0 127=false)(e1:U.rng s.data.toList k 194 223=true)(e2:tl s.data.toList (k+1) 1=false)(e3:U.rng s.data.toList k 224 239=false)(e4:U.rng s.data.toList k 240 244=false) :
  Calls Tryz.prog 105 #[.string s,.int .i64 k] w fun e w'=>e=.returned (.int .i64 0)/\w=w':=by
 have c0:=fun W=>bL_ s (k:Int) 0 127 W hs (by omega);rw[Int.toNat_natCast,e0]at c0;have c1:=fun W=>bL_ s (k:Int) 194 223 W hs (by omega);rw[Int.toNat_natCast,e1]at c1;have c2:=fun W=>e4_ s ((k:Int)+1) 1 W hs (by omega) (by omega) (by omega);rw[show((k:Int)+1).toNat=k+1 from by omega,e2]at c2;have c3:=fun W=>bL_ s (k:Int) 224 239 W hs (by omega);rw[Int.toNat_natCast,e3]at c3;have c4:=fun W=>bL_ s (k:Int) 240 244 W hs (by omega);rw[Int.toNat_natCast,e4]at c4;have C0:=hi_ c0;have C1:=hi_ c1;have C2:=hi_ c2;have C3:=hi_ c3;have C4:=hi_ c4;clear c4 e4 c3 e3 c2 e2 c1 e1 c0 e0
 go_enter Tryz.func105,Tryz.ntmps105
 go_wp2_with fail
 refine(C0.out _).mono ?_;rintro e w' ⟨rfl,rfl⟩;go_wp2_with fail
 refine(C1.out _).mono ?_;rintro e w' ⟨rfl,rfl⟩;go_wp2_with fail
 refine(C2.out _).mono ?_;rintro e w' ⟨rfl,rfl⟩;go_wp2_with fail
 refine(C3.out _).mono ?_;rintro e w' ⟨rfl,rfl⟩;go_wp2_with fail
 refine(C4.out _).mono ?_;rintro e w' ⟨rfl,rfl⟩;go_wp2_with fail
 go_ret
 exact⟨rfl,rfl⟩
theorem size3(s:ByteArray)(k:Nat)(w:World)(hs:s.size<=140737488351232)(hk:k<=s.size)(e0:U.rng s.data.toList k 0 127=false)(e1:U.rng s.data.toList k 194 223=false)(e2:U.rng s.data.toList k 224 239=true)(e3:U.bR_ (s.data.toList.drop k)=true)(e4:tl s.data.toList (k+2) 1=true) :
  Calls Tryz.prog 105 #[.string s,.int .i64 k] w fun e w'=>e=.returned (.int .i64 3)/\w=w':=by
 have c0:=fun W=>bL_ s (k:Int) 0 127 W hs (by omega);rw[Int.toNat_natCast,e0]at c0;have c1:=fun W=>bL_ s (k:Int) 194 223 W hs (by omega);rw[Int.toNat_natCast,e1]at c1;have c2:=fun W=>bL_ s (k:Int) 224 239 W hs (by omega);rw[Int.toNat_natCast,e2]at c2;have c3:=fun W=>dn_ s (k:Int) W hs (by omega) (by have:=gU_ e2;omega);rw[Int.toNat_natCast,e3]at c3;have c4:=fun W=>e4_ s ((k:Int)+2) 1 W hs (by omega) (by omega) (by omega);rw[show((k:Int)+2).toNat=k+2 from by omega,e4]at c4;have C0:=hi_ c0;have C1:=hi_ c1;have C2:=hi_ c2;have C3:=hi_ c3;have C4:=hi_ c4;clear c4 e4 c3 e3 c2 e2 c1 e1 c0 e0
 go_enter Tryz.func105,Tryz.ntmps105
 go_wp2_with fail
 refine(C0.out _).mono ?_;rintro e w' ⟨rfl,rfl⟩;go_wp2_with fail
 refine(C1.out _).mono ?_;rintro e w' ⟨rfl,rfl⟩;go_wp2_with fail
 refine(C2.out _).mono ?_;rintro e w' ⟨rfl,rfl⟩;go_wp2_with fail
 refine(C3.out _).mono ?_;rintro e w' ⟨rfl,rfl⟩;go_wp2_with fail
 refine(C4.out _).mono ?_;rintro e w' ⟨rfl,rfl⟩;go_wp2_with fail
 go_ret
 exact⟨rfl,rfl⟩
theorem size4(s:ByteArray)(k:Nat)(w:World)(hs:s.size<=140737488351232)(hk:k<=s.size)(e0:U.rng s.data.toList k 0 127=false)(e1:U.rng s.data.toList k 194 223=false)(e2:U.rng s.data.toList k 224 239=true)(e3:U.bR_ (s.data.toList.drop k)=true)(e4:tl s.data.toList (k+2) 1=false)(e5:U.rng s.data.toList k 240 244=false) :
  Calls Tryz.prog 105 #[.string s,.int .i64 k] w fun e w'=>e=.returned (.int .i64 0)/\w=w':=by
 have c0:=fun W=>bL_ s (k:Int) 0 127 W hs (by omega);rw[Int.toNat_natCast,e0]at c0;have c1:=fun W=>bL_ s (k:Int) 194 223 W hs (by omega);rw[Int.toNat_natCast,e1]at c1;have c2:=fun W=>bL_ s (k:Int) 224 239 W hs (by omega);rw[Int.toNat_natCast,e2]at c2;have c3:=fun W=>dn_ s (k:Int) W hs (by omega) (by have:=gU_ e2;omega);rw[Int.toNat_natCast,e3]at c3;have c4:=fun W=>e4_ s ((k:Int)+2) 1 W hs (by omega) (by omega) (by omega);rw[show((k:Int)+2).toNat=k+2 from by omega,e4]at c4;have c5:=fun W=>bL_ s (k:Int) 240 244 W hs (by omega);rw[Int.toNat_natCast,e5]at c5;have C0:=hi_ c0;have C1:=hi_ c1;have C2:=hi_ c2;have C3:=hi_ c3;have C4:=hi_ c4;have C5:=hi_ c5;clear c5 e5 c4 e4 c3 e3 c2 e2 c1 e1 c0 e0
 go_enter Tryz.func105,Tryz.ntmps105
 go_wp2_with fail
 refine(C0.out _).mono ?_;rintro e w' ⟨rfl,rfl⟩;go_wp2_with fail
 refine(C1.out _).mono ?_;rintro e w' ⟨rfl,rfl⟩;go_wp2_with fail
 refine(C2.out _).mono ?_;rintro e w' ⟨rfl,rfl⟩;go_wp2_with fail
 refine(C3.out _).mono ?_;rintro e w' ⟨rfl,rfl⟩;go_wp2_with fail
 refine(C4.out _).mono ?_;rintro e w' ⟨rfl,rfl⟩;go_wp2_with fail
 refine(C5.out _).mono ?_;rintro e w' ⟨rfl,rfl⟩;go_wp2_with fail
 go_ret
 exact⟨rfl,rfl⟩
theorem size5(s:ByteArray)(k:Nat)(w:World)(hs:s.size<=140737488351232)(hk:k<=s.size)(e0:U.rng s.data.toList k 0 127=false)(e1:U.rng s.data.toList k 194 223=false)(e2:U.rng s.data.toList k 224 239=true)(e3:U.bR_ (s.data.toList.drop k)=false)(e4:U.rng s.data.toList k 240 244=false) :
  Calls Tryz.prog 105 #[.string s,.int .i64 k] w fun e w'=>e=.returned (.int .i64 0)/\w=w':=by
 have c0:=fun W=>bL_ s (k:Int) 0 127 W hs (by omega);rw[Int.toNat_natCast,e0]at c0;have c1:=fun W=>bL_ s (k:Int) 194 223 W hs (by omega);rw[Int.toNat_natCast,e1]at c1;have c2:=fun W=>bL_ s (k:Int) 224 239 W hs (by omega);rw[Int.toNat_natCast,e2]at c2;have c3:=fun W=>dn_ s (k:Int) W hs (by omega) (by have:=gU_ e2;omega);rw[Int.toNat_natCast,e3]at c3;have c4:=fun W=>bL_ s (k:Int) 240 244 W hs (by omega);rw[Int.toNat_natCast,e4]at c4;have C0:=hi_ c0;have C1:=hi_ c1;have C2:=hi_ c2;have C3:=hi_ c3;have C4:=hi_ c4;clear c4 e4 c3 e3 c2 e2 c1 e1 c0 e0
 go_enter Tryz.func105,Tryz.ntmps105
 go_wp2_with fail
 refine(C0.out _).mono ?_;rintro e w' ⟨rfl,rfl⟩;go_wp2_with fail
 refine(C1.out _).mono ?_;rintro e w' ⟨rfl,rfl⟩;go_wp2_with fail
 refine(C2.out _).mono ?_;rintro e w' ⟨rfl,rfl⟩;go_wp2_with fail
 refine(C3.out _).mono ?_;rintro e w' ⟨rfl,rfl⟩;go_wp2_with fail
 refine(C4.out _).mono ?_;rintro e w' ⟨rfl,rfl⟩;go_wp2_with fail
 go_ret
 exact⟨rfl,rfl⟩
theorem size6(s:ByteArray)(k:Nat)(w:World)(hs:s.size<=140737488351232)(hk:k<=s.size)(e0:U.rng s.data.toList k 0 127=false)(e1:U.rng s.data.toList k 194 223=false)(e2:U.rng s.data.toList k 224 239=false)(e3:U.rng s.data.toList k 240 244=true)(e4:U.bR_ (s.data.toList.drop k)=true)(e5:tl s.data.toList (k+2) 2=true) :
  Calls Tryz.prog 105 #[.string s,.int .i64 k] w fun e w'=>e=.returned (.int .i64 4)/\w=w':=by
 have c0:=fun W=>bL_ s (k:Int) 0 127 W hs (by omega);rw[Int.toNat_natCast,e0]at c0;have c1:=fun W=>bL_ s (k:Int) 194 223 W hs (by omega);rw[Int.toNat_natCast,e1]at c1;have c2:=fun W=>bL_ s (k:Int) 224 239 W hs (by omega);rw[Int.toNat_natCast,e2]at c2;have c3:=fun W=>bL_ s (k:Int) 240 244 W hs (by omega);rw[Int.toNat_natCast,e3]at c3;have c4:=fun W=>dn_ s (k:Int) W hs (by omega) (by have:=gU_ e3;omega);rw[Int.toNat_natCast,e4]at c4;have c5:=fun W=>e4_ s ((k:Int)+2) 2 W hs (by omega) (by omega) (by omega);rw[show((k:Int)+2).toNat=k+2 from by omega,e5]at c5;have C0:=hi_ c0;have C1:=hi_ c1;have C2:=hi_ c2;have C3:=hi_ c3;have C4:=hi_ c4;have C5:=hi_ c5;clear c5 e5 c4 e4 c3 e3 c2 e2 c1 e1 c0 e0
 go_enter Tryz.func105,Tryz.ntmps105
 go_wp2_with fail
 refine(C0.out _).mono ?_;rintro e w' ⟨rfl,rfl⟩;go_wp2_with fail
 refine(C1.out _).mono ?_;rintro e w' ⟨rfl,rfl⟩;go_wp2_with fail
 refine(C2.out _).mono ?_;rintro e w' ⟨rfl,rfl⟩;go_wp2_with fail
 refine(C3.out _).mono ?_;rintro e w' ⟨rfl,rfl⟩;go_wp2_with fail
 refine(C4.out _).mono ?_;rintro e w' ⟨rfl,rfl⟩;go_wp2_with fail
 refine(C5.out _).mono ?_;rintro e w' ⟨rfl,rfl⟩;go_wp2_with fail
 go_ret
 exact⟨rfl,rfl⟩
theorem size7(s:ByteArray)(k:Nat)(w:World)(hs:s.size<=140737488351232)(hk:k<=s.size)(e0:U.rng s.data.toList k 0 127=false)(e1:U.rng s.data.toList k 194 223=false)(e2:U.rng s.data.toList k 224 239=false)(e3:U.rng s.data.toList k 240 244=true)(e4:U.bR_ (s.data.toList.drop k)=true)(e5:tl s.data.toList (k+2) 2=false) :
  Calls Tryz.prog 105 #[.string s,.int .i64 k] w fun e w'=>e=.returned (.int .i64 0)/\w=w':=by
 have c0:=fun W=>bL_ s (k:Int) 0 127 W hs (by omega);rw[Int.toNat_natCast,e0]at c0;have c1:=fun W=>bL_ s (k:Int) 194 223 W hs (by omega);rw[Int.toNat_natCast,e1]at c1;have c2:=fun W=>bL_ s (k:Int) 224 239 W hs (by omega);rw[Int.toNat_natCast,e2]at c2;have c3:=fun W=>bL_ s (k:Int) 240 244 W hs (by omega);rw[Int.toNat_natCast,e3]at c3;have c4:=fun W=>dn_ s (k:Int) W hs (by omega) (by have:=gU_ e3;omega);rw[Int.toNat_natCast,e4]at c4;have c5:=fun W=>e4_ s ((k:Int)+2) 2 W hs (by omega) (by omega) (by omega);rw[show((k:Int)+2).toNat=k+2 from by omega,e5]at c5;have C0:=hi_ c0;have C1:=hi_ c1;have C2:=hi_ c2;have C3:=hi_ c3;have C4:=hi_ c4;have C5:=hi_ c5;clear c5 e5 c4 e4 c3 e3 c2 e2 c1 e1 c0 e0
 go_enter Tryz.func105,Tryz.ntmps105
 go_wp2_with fail
 refine(C0.out _).mono ?_;rintro e w' ⟨rfl,rfl⟩;go_wp2_with fail
 refine(C1.out _).mono ?_;rintro e w' ⟨rfl,rfl⟩;go_wp2_with fail
 refine(C2.out _).mono ?_;rintro e w' ⟨rfl,rfl⟩;go_wp2_with fail
 refine(C3.out _).mono ?_;rintro e w' ⟨rfl,rfl⟩;go_wp2_with fail
 refine(C4.out _).mono ?_;rintro e w' ⟨rfl,rfl⟩;go_wp2_with fail
 refine(C5.out _).mono ?_;rintro e w' ⟨rfl,rfl⟩;go_wp2_with fail
 go_ret
 exact⟨rfl,rfl⟩
theorem size8(s:ByteArray)(k:Nat)(w:World)(hs:s.size<=140737488351232)(hk:k<=s.size)(e0:U.rng s.data.toList k 0 127=false)(e1:U.rng s.data.toList k 194 223=false)(e2:U.rng s.data.toList k 224 239=false)(e3:U.rng s.data.toList k 240 244=true)(e4:U.bR_ (s.data.toList.drop k)=false) :
  Calls Tryz.prog 105 #[.string s,.int .i64 k] w fun e w'=>e=.returned (.int .i64 0)/\w=w':=by
 have c0:=fun W=>bL_ s (k:Int) 0 127 W hs (by omega);rw[Int.toNat_natCast,e0]at c0;have c1:=fun W=>bL_ s (k:Int) 194 223 W hs (by omega);rw[Int.toNat_natCast,e1]at c1;have c2:=fun W=>bL_ s (k:Int) 224 239 W hs (by omega);rw[Int.toNat_natCast,e2]at c2;have c3:=fun W=>bL_ s (k:Int) 240 244 W hs (by omega);rw[Int.toNat_natCast,e3]at c3;have c4:=fun W=>dn_ s (k:Int) W hs (by omega) (by have:=gU_ e3;omega);rw[Int.toNat_natCast,e4]at c4;have C0:=hi_ c0;have C1:=hi_ c1;have C2:=hi_ c2;have C3:=hi_ c3;have C4:=hi_ c4;clear c4 e4 c3 e3 c2 e2 c1 e1 c0 e0
 go_enter Tryz.func105,Tryz.ntmps105
 go_wp2_with fail
 refine(C0.out _).mono ?_;rintro e w' ⟨rfl,rfl⟩;go_wp2_with fail
 refine(C1.out _).mono ?_;rintro e w' ⟨rfl,rfl⟩;go_wp2_with fail
 refine(C2.out _).mono ?_;rintro e w' ⟨rfl,rfl⟩;go_wp2_with fail
 refine(C3.out _).mono ?_;rintro e w' ⟨rfl,rfl⟩;go_wp2_with fail
 refine(C4.out _).mono ?_;rintro e w' ⟨rfl,rfl⟩;go_wp2_with fail
 go_ret
 exact⟨rfl,rfl⟩
theorem size9(s:ByteArray)(k:Nat)(w:World)(hs:s.size<=140737488351232)(hk:k<=s.size)(e0:U.rng s.data.toList k 0 127=false)(e1:U.rng s.data.toList k 194 223=false)(e2:U.rng s.data.toList k 224 239=false)(e3:U.rng s.data.toList k 240 244=false) :
  Calls Tryz.prog 105 #[.string s,.int .i64 k] w fun e w'=>e=.returned (.int .i64 0)/\w=w':=by
 have c0:=fun W=>bL_ s (k:Int) 0 127 W hs (by omega);rw[Int.toNat_natCast,e0]at c0;have c1:=fun W=>bL_ s (k:Int) 194 223 W hs (by omega);rw[Int.toNat_natCast,e1]at c1;have c2:=fun W=>bL_ s (k:Int) 224 239 W hs (by omega);rw[Int.toNat_natCast,e2]at c2;have c3:=fun W=>bL_ s (k:Int) 240 244 W hs (by omega);rw[Int.toNat_natCast,e3]at c3;have C0:=hi_ c0;have C1:=hi_ c1;have C2:=hi_ c2;have C3:=hi_ c3;clear c3 e3 c2 e2 c1 e1 c0 e0
 go_enter Tryz.func105,Tryz.ntmps105
 go_wp2_with fail
 refine(C0.out _).mono ?_;rintro e w' ⟨rfl,rfl⟩;go_wp2_with fail
 refine(C1.out _).mono ?_;rintro e w' ⟨rfl,rfl⟩;go_wp2_with fail
 refine(C2.out _).mono ?_;rintro e w' ⟨rfl,rfl⟩;go_wp2_with fail
 refine(C3.out _).mono ?_;rintro e w' ⟨rfl,rfl⟩;go_wp2_with fail
 go_ret
 exact⟨rfl,rfl⟩
theorem i1_(s:ByteArray)(i:Int)(w:World)(hs:s.size<=140737488351232)(h0:0<=i)(hi:i<=s.size) :
  Calls Tryz.prog 105 #[.string s,.int .i64 i] w fun e w'=>e=.returned (.int .i64 (U.sz (s.data.toList.drop i.toNat)))/\w=w':=by
 obtain⟨k,rfl⟩:=Int.eq_ofNat_of_zero_le h0;rw[Int.toNat_natCast,sz_at];have hk:k<=s.size:=by omega
 cases e0:U.rng s.data.toList k 0 127 with
 |true=>exact size0 s k w hs hk e0
 |false=>
  cases e1:U.rng s.data.toList k 194 223 with
  |true=>
   cases e2:tl s.data.toList (k+1) 1 with
   |true=>exact size1 s k w hs hk e0 e1 e2
   |false=>
    have e3:=fP_ (lo':=224) (hi':=239) e1 (by omega);have e4:=fP_ (lo':=240) (hi':=244) e1 (by omega);rw[e3,e4];exact size2 s k w hs hk e0 e1 e2 e3 e4
  |false=>
   cases e2:U.rng s.data.toList k 224 239 with
   |true=>
    have e4:=fP_ (lo':=240) (hi':=244) e2 (by omega);rw[e4]
    cases e3:U.bR_ (s.data.toList.drop k) with
    |true=>
     cases e5:tl s.data.toList (k+2) 1 with
     |true=>exact size3 s k w hs hk e0 e1 e2 e3 e5
     |false=>exact size4 s k w hs hk e0 e1 e2 e3 e5 e4
    |false=>exact size5 s k w hs hk e0 e1 e2 e3 e4
   |false=>
    cases e3:U.rng s.data.toList k 240 244 with
    |true=>
     cases e4:U.bR_ (s.data.toList.drop k) with
     |true=>
      cases e5:tl s.data.toList (k+2) 2 with
      |true=>exact size6 s k w hs hk e0 e1 e2 e3 e4 e5
      |false=>exact size7 s k w hs hk e0 e1 e2 e3 e4 e5
     |false=>exact size8 s k w hs hk e0 e1 e2 e3 e4
    |false=>exact size9 s k w hs hk e0 e1 e2 e3
end T
end
section
open Go.RowKit
namespace H
section
variable {α:Type} {c:α->Value->List Value} {I:(Nat->Prop)->World->Value->α->Prop} {S S':Nat->Prop} {w w':World} {v:Value} {l:List α} {base size:Nat} {e:TypeId}
theorem mX_{β:Type}{f:β->List Value}{size:Nat}(hf:∀b,(f b).length=size):∀(ps:List β) (k:Nat) (hk:k<ps.length) (o:Nat),o<size->(ps.flatMap f)[k*size+o]?=(f ps[k])[o]?
 |[],k,hk,o,ho=>by simp at hk
 |p :: ps,0,hk,o,ho=>by
  rw[List.flatMap_cons,Nat.zero_mul,Nat.zero_add,List.getElem?_append_left (by rw[hf];exact ho)];rfl
 |p :: ps,k+1,hk,o,ho=>by
  have e:(k+1)*size+o=size+(k*size+o):=by rw[Nat.succ_mul];omega
  rw[List.flatMap_cons,e,List.getElem?_append_right (by rw[hf];omega),hf,Nat.add_sub_cancel_left];exact mX_ hf ps k (by simpa using hk) o ho
theorem bY_{β:Type}{f:β->List Value}{size:Nat}(hf:∀b,(f b).length=size):∀(ps:List β),(ps.flatMap f).length=ps.length*size
 |[]=>by simp
 |p :: ps=>by rw[List.flatMap_cons,List.length_append,hf,bY_ hf ps,List.length_cons,Nat.succ_mul];omega
end
end H
end
section
namespace G
theorem WF.low_all{m:aa_}(W:WF m):Low m.length m:=fun i hi c hc=>(W.kid i c hc).1
theorem d3_{B:Nat}{m m':aa_}(W:WF m)(W':WF m')(hL:Low B m)(hk:∀i,i<B->nd m' i=nd m i)(i:Nat):i<B->ay_ m' i=ay_ m i:=by
 refine W.down_ind (P:=fun i=>i<B->ay_ m' i=ay_ m i) (fun i ih hi=>?_) i;rw[W.height_eq,W'.height_eq,hk i hi];exact congrArg (fun l=>eC_ l+1) (List.map_congr_left fun c hc=>ih c hc (hL i hi c hc))
theorem jT_{B:Nat}{m m':aa_}(W:WF m)(W':WF m')(hL:Low B m)(hk:∀i,i<B->nd m' i=nd m i)(i:Nat):i<B->walk m' i=walk m i:=by
 refine W.down_ind (P:=fun i=>i<B->walk m' i=walk m i) (fun i ih hi=>?_) i;rw[W.walk_eq,W'.walk_eq,hk i hi];exact congrArg (i :: ·) (cT_ fun c hc=>ih c hc (hL i hi c hc))
theorem WF.contains_kid{m:aa_}(W:WF m){j c p:Nat}(hc:c∈(nd m j).kids)(h:contains m c p=true):contains m j p=true:=by
 have hp:=(W.kid j c hc).2;have key:∀p,contains m c p=true->contains m j p=true:=by
  intro p;refine W.up_ind (P:=fun p=>contains m c p=true->contains m j p=true) (fun p h1 h2=>?_) (fun p q h1 ih h2=>?_) p
  ·rw[W.contains_root h1]at h2
   have e:=beq_iff_eq.1 h2;subst e;rw[hp]at h1
   cases h1
  rw[W.contains_step h1]at h2 ⊢
  rcases Bool.or_eq_true_iff.1 h2 with h3|h3
  ·have e:=beq_iff_eq.1 h3
   subst e;have e2:q=j:=by rw[hp]at h1;injection h1 with h1;exact h1.symm
   subst e2;rw[W.contains_self,Bool.or_true]
  rw[ih h3,Bool.or_true]
 exact key p h
theorem d7_{m:aa_}{p k L:Nat}(W:WF m)(W':WF (put m p k L))(hp:p<m.length)(hk:k<m.length)(j:Nat):contains m j p=false->ay_ (put m p k L) j=ay_ m j:=by
 refine W.down_ind (P:=fun j=>contains m j p=false->ay_ (put m p k L) j=ay_ m j) (fun j ih hj=>?_) j;have hne:j≠p:=fun e=>by subst e;rw[W.contains_self]at hj;cases hj
 rw[W.height_eq,W'.height_eq,bC_ hk hp];dsimp only;rw[if_neg hne];refine congrArg (fun l=>eC_ l+1) (List.map_congr_left fun c hc=>ih c hc ?_)
 cases h:contains m c p with
 |false=>rfl
 |true=>rw[W.contains_kid hc h]at hj;cases hj
theorem fB_{m:aa_}{p k L:Nat}(W:WF m)(W':WF (put m p k L))(hp:p<m.length)(hk:k<m.length)(j:Nat):contains m j p=false->walk (put m p k L) j=walk m j:=by
 refine W.down_ind (P:=fun j=>contains m j p=false->walk (put m p k L) j=walk m j) (fun j ih hj=>?_) j;have hne:j≠p:=fun e=>by subst e;rw[W.contains_self]at hj;cases hj
 rw[W.walk_eq,W'.walk_eq,bC_ hk hp];dsimp only;rw[if_neg hne];refine congrArg (j :: ·) (cT_ fun c hc=>ih c hc ?_)
 cases h:contains m c p with
 |false=>rfl
 |true=>rw[W.contains_kid hc h]at hj;cases hj
theorem gX_{a b c:Nat}(h1:a<=b)(h2:b<=c):List.range' a (b-a)++List.range' b (c-b)=List.range' a (c-a):=by
 obtain⟨x,rfl⟩:=Nat.le.dest h1;obtain⟨y,rfl⟩:=Nat.le.dest h2;rw[show a+x-a=x by omega,show a+x+y-(a+x)=y by omega,show a+x+y-a=x+y by omega,List.range'_append_1]
structure dW_(m m':aa_)(h:Nat):Prop where
 wf:WF m'
 more:m.length<m'.length
 old:∀i,i<m.length->nd m' i=nd m i
 root:(nd m' m.length).parent=none/\(nd m' m.length).gone=false/\(nd m' m.length).kind=(nd m h).kind
 high:ay_ m' m.length<=ay_ m h
 walk:walk m' m.length=List.range' m.length (m'.length-m.length)
theorem WF.copied_one{m:aa_}(W:WF m){h:Nat}(hh:h<m.length)(h0:0<h):dW_ m (m++[bare (nd m h)]) h:=by
 have hW:WF (m++[bare (nd m h)]):=W.make rfl rfl (W.kinds h hh h0);have hn:(m++[bare (nd m h)]).length=m.length+1:=by simp
 have hx:nd (m++[bare (nd m h)]) m.length=bare (nd m h):=h2_;refine⟨hW,by omega,fun i hi=>bx_ hi,by rw[hx];exact⟨rfl,rfl,rfl⟩,?_,?_⟩
 ·rw[hW.height_eq,hx]
  have:=W.height_pos h;show eC_ []+1<=_;unfold eC_;simp;omega
 rw[hW.walk_eq,hx,hn,Nat.add_sub_cancel_left];rfl
theorem WF.copyT:∀(n:Nat) {m:aa_} (W:WF m) {h:Nat} (deep:Bool),h<m.length->0<h->G.low m n h->dW_ m (G.copyT n m h deep) h
 |0,m,W,h,deep,hh,h0,hl=>hl.elim
 |n+1,m,W,h,deep,hh,h0,hl=>by
  have h1:=W.copied_one hh h0;have hn:(m++[bare (nd m h)]).length=m.length+1:=by simp
  rw[G.copyT]
  cases deep with
  |false=>exact h1
  |true=>
   simp only [if_true]; have hf : ∀ (l : List Nat) (m' : aa_), (∀ c ∈ l, c ∈ (nd m h).kids) → dW_ m m' h →
     dW_ m (l.foldl (fun m' c=>G.put (G.copyT n m' c true) m.length m'.length (nd (G.copyT n m' c true) m.length).kids.length) m') h:=by
    intro l
    induction l with
    |nil=>exact fun m' _ h=>h
    |cons c t ih=>
     intro m' hc C;have hck:=hc c (by simp);obtain⟨hcm,hcp⟩:=W.kid h c hck;have hc0:0<c:=by
      rcases Nat.eq_zero_or_pos c with e|e
      ·subst e;rw[W.doc.2.2.1]at hcp;cases hcp
      exact e
     have hmore:=C.more;have hcl:G.low m' n c:=dG_ W.low_all C.old hcm (hl c hck);have C2:=WF.copyT n C.wf true (by omega:c<m'.length) hc0 hcl;rw[List.foldl_cons];refine ih _ (fun d hd=>hc d (by simp[hd])) ?_;generalize hm2:G.copyT n m' c true=m2 at C2 ⊢;have hmore2:=C2.more;have hkk:nd m2 m.length=nd m' m.length:=C2.old _ hmore;have hkp:(nd m2 m.length).parent=none:=by rw[hkk];exact C.root.1
     have hcon:contains m2 m'.length m.length=false:=by
      rw[C2.wf.contains_root hkp,beq_eq_false_iff_ne];omega
     have hch:ay_ m' c=ay_ m c:=d3_ W C.wf W.low_all C.old c hcm;have hhk:=W.height_kid hck;have hhd:=W.height_depth h;have hdp:=W.depth_pos h;have hrh:=C2.high;have hkind:(nd m h).kind<=2:=by
      rcases Nat.lt_or_ge 2 (nd m h).kind with e|e
      ·rw[W.leaf h (by omega)]at hck;cases hck
      exact e
     have W3:WF (G.put m2 m.length m'.length (nd m2 m.length).kids.length):=by
      refine C2.wf.put C2.root.1 (by omega) hmore2 (by omega) hcon ?_ (by rw[hkk,C.root.2.2];exact hkind) (by rw[hkk,C2.root.2.1,C.root.2.1]);rw[C2.wf.depth_root hkp];omega
     have hnd:∀i,nd (G.put m2 m.length m'.length (nd m2 m.length).kids.length) i={ nd m2 i with kids:=if i=m.length then(nd m2 i).kids.take (nd m2 m.length).kids.length++m'.length :: (nd m2 i).kids.drop (nd m2 m.length).kids.length else(nd m2 i).kids,parent:=if i=m'.length then some m.length else(nd m2 i).parent }:=fun i=>bC_ hmore2 (by omega) i;have hkids:(nd (G.put m2 m.length m'.length (nd m2 m.length).kids.length) m.length).kids=(nd m' m.length).kids++[m'.length]:=by
      rw[hnd];dsimp only;rw[if_pos rfl,List.take_length,List.drop_length,hkk]
     have hnok:∀j,j≠m.length->contains m2 j m.length=false:=fun j hj=>by rw[C2.wf.contains_root hkp,beq_eq_false_iff_ne];exact hj
     have hkne:∀j∈(nd m' m.length).kids,j≠m.length/\j<m'.length:=fun j hj=>by
      obtain⟨a,b⟩:=C.wf.kid _ j hj;exact⟨fun e=>(by subst e;rw[C.root.1]at b;cases b),a⟩
     refine⟨W3,by rw[bw_];omega,fun i hi=>?_,?_,?_,?_⟩
     ·rw[hnd,if_neg (by omega),if_neg (by omega)]
      exact(C2.old i (by omega)).trans (C.old i hi)
     ·rw[hnd]
      dsimp only;rw[if_neg (by omega),hkk];exact C.root
     ·rw[W3.height_eq,hkids]
      have:eC_ (((nd m' m.length).kids++[m'.length]).map (ay_ (G.put m2 m.length m'.length (nd m2 m.length).kids.length)))<=ay_ m h-1:=by
       refine f1_ fun x hx=>?_;obtain⟨j,hj,rfl⟩:=List.mem_map.1 hx
       rcases List.mem_append.1 hj with hj|hj
       ·obtain⟨e1,e2⟩:=hkne j hj
        rw[d7_ C2.wf W3 (by omega) hmore2 j (hnok j e1),d3_ C.wf C2.wf C.wf.low_all C2.old j e2];have:=C.wf.height_kid hj;have:=C.high;omega
       have e:=List.mem_singleton.1 hj;subst e;rw[d7_ C2.wf W3 (by omega) hmore2 _ hcon];omega
      omega
     rw[W3.walk_eq,hkids,List.flatMap_append,bw_];have e1:(nd m' m.length).kids.flatMap (G.walk (G.put m2 m.length m'.length (nd m2 m.length).kids.length))=(nd m' m.length).kids.flatMap (G.walk m'):=cT_ fun j hj=>by
      obtain⟨a,b⟩:=hkne j hj;rw[fB_ C2.wf W3 (by omega) hmore2 j (hnok j a),jT_ C.wf C2.wf C.wf.low_all C2.old j b]
     have e2:[m'.length].flatMap (G.walk (G.put m2 m.length m'.length (nd m2 m.length).kids.length))=List.range' m'.length (m2.length-m'.length):=by
      rw[List.flatMap_cons,List.flatMap_nil,List.append_nil,fB_ C2.wf W3 (by omega) hmore2 _ hcon];exact C2.walk
     rw[e1,e2,<-List.cons_append,<-C.wf.walk_eq,C.walk];exact gX_ (by omega) (by omega)
   exact hf _ _ (fun c hc=>hc) h1
theorem idx_at{l:List Nat}(hn:l.Nodup){i c:Nat}(h:l[i]?=some c):l.idxOf c=i:=by
 have h1:=dB_ (List.mem_of_getElem? h);have hi:i<l.length:=by
  rcases Nat.lt_or_ge i l.length with h2|h2
  ·exact h2
  rw[List.getElem?_eq_none h2]at h;cases h
 exact((List.getElem?_inj hi hn).1 (h.trans h1.symm)).symm
theorem WF.top_contains{m:aa_}(W:WF m)(h:Nat):contains m (top m h) h=true:=by
 refine W.up_ind (P:=fun h=>contains m (top m h) h=true) (fun h hp=>?_) (fun h p hp ih=>?_) h
 ·rw[W.top_root hp];exact W.contains_self h
 rw[W.contains_step hp,W.top_step hp,ih,Bool.or_true]
def bp_(m:aa_)(a:Nat×Nat):Nat->Nat->Int
 |0,_=>0
 |n+1,h=>match (nd m h).parent with
  |none=>0
  |some p=>if p=a.1 then(if a.2<=(nd m p).kids.idxOf h then -1 else 1)else bp_ m a n p
theorem cU_{m:aa_}(W:WF m){a:Nat×Nat}(h:Nat):∀(s:List Nat) (n:Nat),contains m a.1 h=true->h≠a.1->depth m h<=n->bp_ m a n h=cmpL (cg_ m a) ((pidx m h).map odd++s):=by
 refine W.up_ind (P:=fun h=>∀(s:List Nat) (n:Nat),contains m a.1 h=true->h≠a.1->depth m h<=n->bp_ m a n h=cmpL (cg_ m a) ((pidx m h).map odd++s)) (fun h hp s n hc hne hn=>?_) (fun h p hp ih s n hc hne hn=>?_) h
 ·rw[W.contains_root hp]at hc
  exact absurd (beq_iff_eq.1 hc).symm hne
 obtain⟨n',rfl⟩:∃n',n=n'+1:=⟨n-1,by have:=W.depth_pos h;omega⟩;have hds:=W.depth_step hp;rw[bp_,hp];dsimp only;rw[W.pidx_step hp]
 by_cases e:p=a.1
 ·rw[if_pos e,e]
  unfold cg_;rw[List.map_append,List.append_assoc,d9_];show _=cmpL [2*a.2] (odd ((nd m a.1).kids.idxOf h) :: s);rw[cmpL];unfold odd
  by_cases h2:a.2<=(nd m a.1).kids.idxOf h
  ·rw[if_pos h2,if_pos (by omega)]
  rw[if_neg h2,if_neg (by omega),if_pos (by omega)]
 rw[if_neg e];rw[W.contains_step hp]at hc
 rcases Bool.or_eq_true_iff.1 hc with hc|hc
 ·exact absurd (beq_iff_eq.1 hc).symm hne
 rw[ih (odd ((nd m p).kids.idxOf h) :: s) n' hc e (by omega),List.map_append,List.append_assoc];rfl
def lcmp(m:aa_)(a b:Nat×Nat):Int:=
 if a.1=b.1 then(if a.2<b.2 then -1 else if b.2<a.2 then 1 else 0)
 else if contains m a.1 b.1=true then bp_ m a 128 b.1
 else if contains m b.1 a.1=true then-bp_ m b 128 a.1
 else cmpL (pidx m a.1) (pidx m b.1)
theorem bV_{m:aa_}(W:WF m){a b:Nat×Nat}(ht:top m a.1=top m b.1):lcmp m a b=cmpL (cg_ m a) (cg_ m b):=by
 unfold lcmp
 by_cases e:a.1=b.1
 ·rw[if_pos e]
  unfold cg_;rw[e,d9_,cmpL]
  by_cases h1:a.2<b.2
  ·rw[if_pos h1,if_pos (by omega)]
  have h3:¬2*a.2<2*b.2:=by omega
  by_cases h2:b.2<a.2
  ·have h4:2*b.2<2*a.2:=by omega
   rw[if_neg h1,if_pos h2,if_neg h3,if_pos h4]
  have h4:¬2*b.2<2*a.2:=by omega
  rw[if_neg h1,if_neg h2,if_neg h3,if_neg h4,cmpL]
 rw[if_neg e]
 by_cases h1:contains m a.1 b.1=true
 ·rw[if_pos h1]
  exact cU_ W b.1 [2*b.2] 128 h1 (fun e2=>e e2.symm) (W.depth_le _)
 rw[if_neg h1]
 by_cases h2:contains m b.1 a.1=true
 ·rw[if_pos h2,cU_ W a.1 [2*a.2] 128 h2 e (W.depth_le _)]
  show-cmpL (cg_ m b) (cg_ m a)=_;rw[hE_ (cg_ m a) (cg_ m b),Int.neg_neg]
 rw[if_neg h2];have h3:¬pidx m a.1 <+: pidx m b.1:=fun h=>h1 (W.contains_pidx _ ht h);have h4:¬pidx m b.1 <+: pidx m a.1:=fun h=>h2 (W.contains_pidx _ ht.symm h);have mono:∀x y,x<y->odd x<odd y:=fun x y h=>by unfold odd;omega
 have inj:∀{x y:List Nat},x.map odd <+: y.map odd->x <+: y:=by
  intro x
  induction x with
  |nil=>intro y _;exact List.nil_prefix
  |cons c x ih=>
   intro y h
   cases y with
   |nil=>exact absurd h (by simp)
   |cons d y=>
    rw[List.map_cons,List.map_cons,List.cons_prefix_cons]at h;have e3:c=d:=by have:=h.1;unfold odd at this;omega
    rw[e3];exact(List.prefix_cons_inj d).2 (ih h.2)
 unfold cg_;rw[ea_ _ _ _ _ (fun h=>h3 (inj h)) (fun h=>h4 (inj h)),kl_ mono]
def bs_(P:List Nat)(f:List Nat->List Nat)(l:List Nat):List Nat:=if P <+: l then P++f (l.drop P.length)else l
theorem aH_{P:List Nat}{f:List Nat->List Nat}(t:List Nat):bs_ P f (P++t)=P++f t:=by
 unfold bs_;rw[if_pos (List.prefix_append P t),List.drop_left]
theorem bg_{P l:List Nat}{f:List Nat->List Nat}(h:¬P <+: l):bs_ P f l=l:=by
 unfold bs_;rw[if_neg h]
theorem iH_{P:List Nat}{f:List Nat->List Nat}{x y:List Nat}(hx:x <+: P->x=P)(hy:y <+: P->y=P)(hf:∀s t,x=P++s->y=P++t->cmpL s t<=0->cmpL (f s) (f t)<=0)(h:cmpL x y<=0):cmpL (bs_ P f x) (bs_ P f y)<=0:=by
 by_cases h1:P <+: x
 ·obtain⟨s,rfl⟩:=h1
  by_cases h2:P <+: y
  ·obtain⟨t,rfl⟩:=h2
   rw[aH_,aH_,d9_];rw[d9_]at h;exact hf s t rfl rfl h
  have h3:¬y <+: P:=fun e=>h2 (by rw[hy e];exact List.prefix_rfl);rw[aH_,bg_ h2];have e1:=ea_ P y (f s) [] h2 h3;have e2:=ea_ P y s [] h2 h3;rw[List.append_nil]at e1 e2;rw[e1,<-e2];exact h
 rw[bg_ h1]
 by_cases h2:P <+: y
 ·obtain⟨t,rfl⟩:=h2
  have h3:¬x <+: P:=fun e=>h1 (by rw[hx e];exact List.prefix_rfl);rw[aH_];have e1:=ea_ x P [] (f t) h3 h1;have e2:=ea_ x P [] t h3 h1;rw[List.append_nil]at e1 e2;rw[e1,<-e2];exact h
 rw[bg_ h2];exact h
def iP_(l:List Nat):Prop:=∃o i,l=List.map odd o++[2*i]
theorem fI_(m:aa_)(q:Nat×Nat):iP_ (cg_ m q):=⟨_,_,rfl⟩
theorem fr_{l:List Nat}(h:iP_ l)(o:List Nat):l <+: o.map odd->l=o.map odd:=by
 intro hp;exfalso;obtain⟨q,i,rfl⟩:=h;have h1:2*i∈o.map odd:=by
  obtain⟨t,ht⟩:=hp;rw[<-ht];simp
 obtain⟨k,_,hk⟩:=List.mem_map.1 h1;unfold odd at hk;omega
theorem iF_{o s:List Nat}(h:iP_ (o.map odd++s)):(∃i,s=[2*i])\/∃k r,s=odd k :: r/\iP_ r:=by
 obtain⟨q,i,hq⟩:=h;have:∀(o q s:List Nat),o.map odd++s=q.map odd++[2*i]->(∃i,s=[2*i])\/∃k r,s=odd k :: r/\iP_ r:=by
  intro o
  induction o with
  |nil=>
   intro q s h
   cases q with
   |nil=>exact Or.inl ⟨i,h⟩
   |cons k q=>exact Or.inr ⟨k,_,h,q,i,rfl⟩
  |cons k o ih=>
   intro q s h
   cases q with
   |nil=>
    rw[List.map_cons,List.cons_append,List.map_nil,List.nil_append]at h;injection h with h1 h2
    unfold odd at h1;omega
   |cons k2 q=>
    rw[List.map_cons,List.cons_append,List.map_cons,List.cons_append]at h;injection h with h1 h2
    exact ih q s h2
 exact this o q s hq
def eM_(c:Nat):List Nat->List Nat
 |[]=>[]
 |e :: r=>if e<2*c+1 then e :: r else if e=2*c+1 then[2*c] else(e-2) :: r
def fw_(c:Nat):List Nat->List Nat
 |[]=>[]
 |e :: r=>if e<=2*c then e :: r else(e+2) :: r
theorem mo_{c:Nat}{s t:List Nat}(hs:(∃i,s=[2*i])\/∃k r,s=odd k :: r)(ht:(∃i,t=[2*i])\/∃k r,t=odd k :: r)(h:cmpL s t<=0):cmpL (eM_ c s) (eM_ c t)<=0:=by
 have key:∀(e d:Nat) (r u:List Nat),(e % 2=0->r=[])->(d % 2=0->u=[])->cmpL (e :: r) (d :: u)<=0->cmpL (eM_ c (e :: r)) (eM_ c (d :: u))<=0:=by
  intro e d r u he hd h;rw[cmpL]at h;rw[eM_,eM_]
  by_cases h1:e<d
  ·by_cases a1:e<2*c+1
   ·rw[if_pos a1]
    by_cases b1:d<2*c+1
    ·rw[if_pos b1,cmpL,if_pos h1];omega
    rw[if_neg b1]
    by_cases b2:d=2*c+1
    ·rw[if_pos b2]
     by_cases a2:e=2*c
     ·rw[he (by omega),a2,dU_];omega
     rw[cmpL,if_pos (by omega)];omega
    rw[if_neg b2]
    by_cases a2:e=d-2
    ·have e1:d=2*c+2:=by omega
     rw[he (by omega),hd (by omega),a2,dU_];omega
    rw[cmpL,if_pos (by omega)];omega
   rw[if_neg a1,if_neg (by omega:¬d<2*c+1)]
   by_cases a2:e=2*c+1
   ·rw[if_pos a2,if_neg (by omega)]
    by_cases b2:d=2*c+2
    ·rw[hd (by omega),b2,show 2*c+2-2=2*c by omega,dU_];omega
    rw[cmpL,if_pos (by omega)];omega
   rw[if_neg a2,if_neg (by omega),cmpL,if_pos (by omega)];omega
  rw[if_neg h1]at h
  by_cases h2:d<e
  ·rw[if_pos h2]at h;omega
  rw[if_neg h2]at h;have e1:e=d:=by omega
  subst e1
  by_cases a1:e<2*c+1
  ·rw[if_pos a1,if_pos a1,cmpL,if_neg h1,if_neg h1];exact h
  rw[if_neg a1,if_neg a1]
  by_cases a2:e=2*c+1
  ·rw[if_pos a2,if_pos a2,dU_];omega
  rw[if_neg a2,if_neg a2,cmpL,if_neg (Nat.lt_irrefl _),if_neg (Nat.lt_irrefl _)];exact h
 have form:∀{s},((∃i,s=[2*i])\/∃k r,s=odd k :: r)->∃e r,s=e :: r/\(e % 2=0->r=[]):=by
  rintro s (⟨i,rfl⟩|⟨k,r,rfl⟩)
  ·exact⟨_,_,rfl,fun _=>rfl⟩
  exact⟨_,_,rfl,fun h=>by unfold odd at h;omega⟩
 obtain⟨e,r,rfl,he⟩:=form hs;obtain⟨d,u,rfl,hd⟩:=form ht;exact key e d r u he hd h
theorem l9_{c:Nat}{s t:List Nat}(h:cmpL s t<=0):cmpL (fw_ c s) (fw_ c t)<=0:=by
 cases s with
 |nil=>
  cases t with
  |nil=>exact h
  |cons d u=>
   have e:fw_ c []=[]:=rfl;rw[e,fw_]
   split<;>(show(-1:Int)<=0;omega)
 |cons e r=>
  cases t with
  |nil=>exact absurd h (by show ¬(1:Int)<=0;omega)
  |cons d u=>
   rw[cmpL]at h;rw[fw_,fw_]
   by_cases h1:e<d
   ·by_cases a1:e<=2*c
    ·rw[if_pos a1]
     by_cases b1:d<=2*c
     ·rw[if_pos b1,cmpL,if_pos h1];omega
     rw[if_neg b1,cmpL,if_pos (by omega)];omega
    rw[if_neg a1,if_neg (by omega),cmpL,if_pos (by omega)];omega
   rw[if_neg h1]at h
   by_cases h2:d<e
   ·rw[if_pos h2]at h;omega
   rw[if_neg h2]at h;have e1:e=d:=by omega
   subst e1
   by_cases a1:e<=2*c
   ·rw[if_pos a1,if_pos a1,cmpL,if_neg h1,if_neg h1];exact h
   rw[if_neg a1,if_neg a1,cmpL,if_neg (Nat.lt_irrefl _),if_neg (Nat.lt_irrefl _)];exact h
def ej_(c:Nat):List Nat->List Nat
 |[]=>[]
 |j :: r=>if j<c then j :: r else(j-1) :: r
def ei_(c:Nat):List Nat->List Nat
 |[]=>[]
 |j :: r=>if j<c then j :: r else(j+1) :: r
theorem ft_{P l:List Nat}{f:List Nat->List Nat}{j:Nat}(hne:P≠l++[j])(hf0:f []=[])(hf:∀a r,f (a :: r++[j])=f (a :: r)++[j])(hl:l≠P):bs_ P f (l++[j])=bs_ P f l++[j]:=by
 by_cases h:P <+: l
 ·obtain⟨t,rfl⟩:=h
  rw[List.append_assoc,aH_,aH_,List.append_assoc]
  cases t with
  |nil=>exact absurd (List.append_nil P) hl
  |cons a r=>rw[hf]
 rw[bg_ h,bg_];intro h2
 rcases List.prefix_concat_iff.1 h2 with h3|h3
 ·exact hne h3
 exact h h3
theorem kK_(c j a:Nat)(r:List Nat):ej_ c (a :: r++[j])=ej_ c (a :: r)++[j]:=by
 show ej_ c (a :: (r++[j]))=_;rw[ej_,ej_]
 split<;>rfl
theorem kH_(c j a:Nat)(r:List Nat):ei_ c (a :: r++[j])=ei_ c (a :: r)++[j]:=by
 show ei_ c (a :: (r++[j]))=_;rw[ei_,ei_]
 split<;>rfl
theorem ig_{h x:Nat}:∀{l:List Nat},l.Nodup->x∈l->x≠h->h∈l->(l.erase h).idxOf x=if l.idxOf x<l.idxOf h then l.idxOf x else l.idxOf x-1
 |[],_,hx,_,_=>by cases hx
 |a :: l,hn,hx,hne,hh=>by
  rw[List.nodup_cons]at hn
  by_cases e1:a=h
  ·subst e1
   have e2:¬a=x:=fun e=>hne e.symm;have e3:(a==x)=false:=bn_ e2;have e4:(a==a)=true:=beq_self_eq_true a;rw[List.erase_cons_head,List.idxOf_cons,List.idxOf_cons,e3,e4];simp
  have hh2:h∈l:=by
   rcases List.mem_cons.1 hh with e|e
   ·exact absurd e.symm e1
   exact e
  rw[List.erase_cons_tail (by simpa using e1)]
  by_cases e2:a=x
  ·subst e2
   simp[List.idxOf_cons,e1]
  have hx2:x∈l:=by
   rcases List.mem_cons.1 hx with e|e
   ·exact absurd e.symm e2
   exact e
  have ih:=ig_ (h:=h) (x:=x) hn.2 hx2 hne hh2;have ne1:(a==x)=false:=bn_ e2;have ne2:(a==h)=false:=bn_ e1;rw[List.idxOf_cons,List.idxOf_cons,List.idxOf_cons,ne1,ne2,ih];simp only[cond_false];have hxne:l.idxOf x≠l.idxOf h:=fun e=>by
   have g1:=dB_ hx2;have g2:=dB_ hh2;rw[e,g2]at g1;injection g1 with g1
   exact hne g1.symm
  by_cases h3:l.idxOf x<l.idxOf h
  ·rw[if_pos h3,if_pos (by omega)]
  rw[if_neg h3,if_neg (by omega)];omega
theorem gl_{m:aa_}(W:WF m){h p:Nat}(hp:(nd m h).parent=some p)(x:Nat):contains m h x=false →
  top (cut m h p) x=top m x/\(top m x=top m p->pidx (cut m h p) x=bs_ (pidx m p) (ej_ ((nd m p).kids.idxOf h)) (pidx m x))/\(top m x≠top m p->pidx (cut m h p) x=pidx m x):=by
 have W':=W.cut hp;obtain⟨h1,h2⟩:=W.lt hp;have hP:∀j,(nd (cut m h p) j).parent=if j=h then none else(nd m j).parent:=fun j=>by rw[bT_ h1 h2]
 have hK:∀j,(nd (cut m h p) j).kids=if j=p then(nd m j).kids.erase h else(nd m j).kids:=fun j=>by rw[bT_ h1 h2]
 have f0:ej_ ((nd m p).kids.idxOf h) []=[]:=rfl;refine W.up_ind (P:=fun x=>contains m h x=false->top (cut m h p) x=top m x/\(top m x=top m p->pidx (cut m h p) x=bs_ (pidx m p) (ej_ ((nd m p).kids.idxOf h)) (pidx m x))/\(top m x≠top m p->pidx (cut m h p) x=pidx m x)) (fun x hx hc=>?_) (fun x q hx ih hc=>?_) x
 ·have hne:x≠h:=fun e=>by subst e;rw[hp]at hx;cases hx
  have hx':(nd (cut m h p) x).parent=none:=by rw[hP,if_neg hne];exact hx
  refine⟨by rw[W.top_root hx,W'.top_root hx'],fun ht=>?_,fun _=>by rw[ba_ hx,ba_ hx']⟩;rw[ba_ hx,ba_ hx'];unfold bs_
  split
  ·rename_i h3
   rw[List.prefix_nil.1 h3];rfl
  rfl
 rw[W.contains_step hx,Bool.or_eq_false_iff,beq_eq_false_iff_ne]at hc;obtain⟨hne,hcq⟩:=hc;have hx':(nd (cut m h p) x).parent=some q:=by rw[hP,if_neg (fun e=>hne e.symm)];exact hx
 obtain⟨i1,i2,i3⟩:=ih hcq;have hmem:=(W.par x q hx).2;refine⟨by rw[W.top_step hx,W'.top_step hx'];exact i1,fun ht=>?_,fun ht=>?_⟩
 ·rw[W.top_step hx]at ht
  rw[W'.pidx_step hx',i2 ht,W.pidx_step hx,hK]
  by_cases e:q=p
  ·subst e
   rw[if_pos rfl];have e1:bs_ (pidx m q) (ej_ ((nd m q).kids.idxOf h)) (pidx m q)=pidx m q:=by
    have:=aH_ (P:=pidx m q) (f:=ej_ ((nd m q).kids.idxOf h)) [];rw[List.append_nil]at this;rw[this,f0,List.append_nil]
   rw[e1,aH_,ig_ (W.nodup q) hmem (fun e=>hne e.symm) (W.par h q hp).2,ej_]
   split<;>rfl
  rw[if_neg e];have hlq:pidx m q≠pidx m p:=fun e2=>e (W.pidx_inj q p ht e2)
  by_cases e3:pidx m p=pidx m q++[(nd m q).kids.idxOf x]
  ·have e4:x=p:=W.pidx_inj x p (by rw[W.top_step hx];exact ht) (by rw[W.pidx_step hx,e3])
   have e5:¬pidx m p <+: pidx m q:=fun h3=>by
    have h4:=h3.length_le;rw[e3,List.length_append]at h4;simp at h4;omega
   rw[bg_ e5,<-e3];have:=aH_ (P:=pidx m p) (f:=ej_ ((nd m p).kids.idxOf h)) [];rw[List.append_nil]at this;rw[this,f0,List.append_nil]
  rw[ft_ e3 f0 (fun a r=>kK_ _ _ _ _) hlq]
 rw[W.top_step hx]at ht;rw[W'.pidx_step hx',i3 ht,W.pidx_step hx,hK,if_neg (fun e=>ht (by rw[e]))]
end G
end
section
open Go.RowKit
namespace H
section
variable {w:World} {base:Nat} {e:TypeId} {size:Nat} {g n cap:Nat} {xs:List Value}
theorem eo_(h:w.ownsRow base e size (.slice (some ⟨g,0,none⟩) n cap) n xs)(k:Nat)(u:Value):(w.setCell ⟨g,k,none⟩ u).ownsRow base e size (.slice (some ⟨g,0,none⟩) n cap) n (xs.set k u):=by
 refine⟨by rw[List.length_set];exact h.1,?_⟩
 rcases h.2 with⟨hv,_⟩|⟨g',cap',cur,hv,hb,hg,hn,hm,hc,ht⟩
 ·cases hv
 simp only[Value.slice.injEq,Option.some.injEq,Addr.mk.injEq,and_true,true_and]at hv;obtain⟨rfl,rfl⟩:=hv;have hs:Blk g (cur.setIfInBounds k u) e (w.setCell ⟨g,k,none⟩ u):=Blk.set hg k u;exact Or.inr ⟨g,cap,_,rfl,hb,hs,hn,hm,by rw[Array.size_setIfInBounds];exact hc,by rw[Array.toList_setIfInBounds,List.take_set,ht]⟩
theorem ad_(h:w.ownsRow base e size (.slice (some ⟨g,0,none⟩) n cap) n xs):g<w.heap.size/\base<=g/\n<=cap/\∀k,k<xs.length->w.cell? ⟨g,k,none⟩=xs[k]?/\w.frozen? ⟨g,k,none⟩=false:=by
 have h1:=h.1
 rcases h.2 with⟨hv,_⟩|⟨g',cap',cur,hv,hb,hg,hn,hm,hc,ht⟩
 ·cases hv
 simp only[Value.slice.injEq,Option.some.injEq,Addr.mk.injEq,and_true,true_and]at hv;obtain⟨rfl,rfl⟩:=hv;obtain⟨hcell,hfr⟩:=ae_ hg;have hle:n*size<=cap*size:=Nat.mul_le_mul_right _ hn;refine⟨lt_of_block hg,hb,hn,fun k hk=>⟨?_,hfr k (by rw[hc];omega)⟩⟩;rw[hcell k,<-ht,List.getElem?_take_of_lt (by omega),Array.getElem?_toList]
end
section
variable {α:Type} {c:α->List Value} {w:World} {base:Nat} {e:TypeId} {size:Nat} {g cap:Nat} {l:List α}
def ab_(c:α->List Value)(base:Nat)(e:TypeId)(size:Nat)(w:World)(v:Value)(l:List α):Prop:=w.ownsRow base e size v l.length (l.flatMap c)
theorem ab_.cell(hc:∀x,(c x).length=size)(h:ab_ c base e size w (.slice (some ⟨g,0,none⟩) l.length cap) l){i:Nat}(hi:i<l.length){k:Nat}(hk:k<size) :
  w.cell? ⟨g,i*size+k,none⟩=(c l[i])[k]?/\w.frozen? ⟨g,i*size+k,none⟩=false:=by
 obtain⟨_,_,_,h4⟩:=ad_ h;have hlt:i*size+k<(l.flatMap c).length:=by
  rw[bY_ hc];have:(i+1)*size<=l.length*size:=Nat.mul_le_mul_right _ hi;rw[Nat.succ_mul]at this;omega
 obtain⟨h5,h6⟩:=h4 _ hlt;exact⟨by rw[h5,mX_ hc l i hi k hk],h6⟩
theorem j9_(hc:∀x,(c x).length=size){k:Nat}(hk:k<size)(u:Value){f:α->α}:∀{l:List α} {i:Nat} (hi:i<l.length),c (f l[i])=(c l[i]).set k u->(l.flatMap c).set (i*size+k) u=(l.modify i f).flatMap c
 |[],i,hi,_=>by simp at hi
 |x :: l,0,hi,hf=>by
  rw[List.flatMap_cons,Nat.zero_mul,Nat.zero_add,List.set_append_left _ _ (by rw[hc];exact hk)];show _=(f x :: l).flatMap c;rw[List.flatMap_cons];have:c (f x)=(c x).set k u:=hf;rw[this]
 |x :: l,i+1,hi,hf=>by
  have e1:(i+1)*size+k=size+(i*size+k):=by rw[Nat.succ_mul];omega
  rw[List.flatMap_cons,e1,List.set_append_right _ _ (by rw[hc];omega),hc,Nat.add_sub_cancel_left];show _=(x :: l.modify i f).flatMap c;rw[List.flatMap_cons,j9_ (l:=l) (i:=i) hc hk u (by simpa using hi) (by simpa using hf)]
theorem ab_.store(hc:∀x,(c x).length=size)(h:ab_ c base e size w (.slice (some ⟨g,0,none⟩) l.length cap) l){i k:Nat}(hi:i<l.length)(hk:k<size)(u:Value)(f:α->α)(hf:c (f l[i])=(c l[i]).set k u) :
  ab_ c base e size (w.setCell ⟨g,i*size+k,none⟩ u) (.slice (some ⟨g,0,none⟩) (l.modify i f).length cap) (l.modify i f):=by
 have h1:=eo_ h (i*size+k) u;rw[j9_ hc hk u hi hf]at h1;unfold ab_;rw[List.length_modify];exact h1
end
end H
end
section
namespace G
def sl(L:List Bytes)(f t:Nat):Bytes:=((L.take t).drop f).flatten
def before(m:aa_)(a b:Nat×Nat):Bool:=decide (lcmp m a b<0)
theorem mp_{m:aa_}(W:WF m){a:Nat×Nat}{x:Nat}(hx:2<(nd m x).kind)(hne:a.1≠x)(i:Nat):lcmp m a (x,i)=lcmp m a (x,0):=by
 have hc:¬contains m x a.1=true:=by
  refine W.up_ind (P:=fun y=>y≠x->¬contains m x y=true) (fun y hy hne=>?_) (fun y p hy ih hne=>?_) a.1 hne
  ·rw[W.contains_root hy,beq_iff_eq];exact fun e=>hne e.symm
  rw[W.contains_step hy,Bool.or_eq_true_iff,beq_iff_eq];rintro(e|h)
  ·exact hne e.symm
  by_cases e:p=x
  ·subst e
   have h2:=(W.par y p hy).2;rw[W.leaf p (by omega)]at h2
   cases h2
  exact ih e h
 unfold lcmp;dsimp only;rw[if_neg hne,if_neg hne]
 by_cases h1:contains m a.1 x=true
 ·rw[if_pos h1,if_pos h1]
 rw[if_neg h1,if_neg h1,if_neg hc,if_neg hc]
theorem hw_{m:aa_}(W:WF m){a b:Nat×Nat}(ht:top m a.1=top m b.1):lcmp m b a=- lcmp m a b:=by
 rw[bV_ W ht,bV_ W ht.symm,hE_]
theorem kM_{m:aa_}(W:WF m){a b:Nat×Nat}(ht:top m a.1=top m b.1):lcmp m a b=-1\/lcmp m a b=0\/lcmp m a b=1:=by
 rw[bV_ W ht];exact ff_ _ _
end G
end
section
open Go.RowKit Go.Sort
namespace A
open H
def nrm(z:Int):Int:=min (max z 1) 1000
theorem c0_(z:Int):1<=nrm z/\nrm z<=1000:=by unfold nrm;omega
def dI_(b s h:Int):Option Nat:=if h<nrm b\/(h-nrm b) % nrm s≠0\/2147483647<(h-nrm b) / nrm s then none else some ((h-nrm b) / nrm s).toNat
def handle(b s:Int)(i:Nat):Int:=nrm b+nrm s*(i:Int)
theorem e9_(b s:Int)(i:Nat):1<=handle b s i:=by
 have h1:=c0_ b;have h2:=c0_ s;have h3:0<=nrm s*(i:Int):=Int.mul_nonneg (by omega) (by omega);unfold handle;omega
theorem dC_{b s:Int}{i:Nat}(hi:i<=2147483647):dI_ b s (handle b s i)=some i:=by
 have h1:=c0_ b;have h2:=c0_ s;have h3:0<=nrm s*(i:Int):=Int.mul_nonneg (by omega) (by omega);have e:handle b s i-nrm b=nrm s*(i:Int):=by unfold handle;omega
 unfold dI_;rw[e,Int.mul_emod_right,Int.mul_ediv_cancel_left _ (by omega)];rw[if_neg]
 ·simp
 rintro(h|h|h)
 ·unfold handle at h;omega
 ·exact h rfl
 omega
theorem gS_{b s h:Int}{i:Nat}(hh:dI_ b s h=some i):h=handle b s i/\i<=2147483647:=by
 have h1:=c0_ b;have h2:=c0_ s;unfold dI_ at hh
 split at hh
 ·cases hh
 rename_i hn
 injection hh with hh
 have h3:¬h<nrm b:=fun e=>hn (Or.inl e);have h4:(h-nrm b) % nrm s=0:=Classical.not_not.1 (fun e=>hn (Or.inr (Or.inl e)));have h5:¬2147483647<(h-nrm b) / nrm s:=fun e=>hn (Or.inr (Or.inr e));have h6:0<=(h-nrm b) / nrm s:=Int.ediv_nonneg (by omega) (by omega);have h7:nrm s*((h-nrm b) / nrm s)=h-nrm b:=Int.mul_ediv_cancel' (Int.dvd_of_emod_eq_zero h4);refine⟨?_,by omega⟩;unfold handle;rw[<-hh,Int.toNat_of_nonneg h6,h7];omega
theorem norm(b s:Int)(w:World):Calls Tryz.prog 159 #[.agg #[.int .i64 b,.int .i64 s]] w fun e w'=>e=.returned (.agg #[.int .i64 (nrm b),.int .i64 (nrm s)])/\Below w.heap.size w w':=by
 have hB:=((Below.refl w.heap.size w).alloc (nl_) (.cells #[.int .i64 b,.int .i64 s] 87)).alloc (by simp) (.cells #[.int .i64 (min (max b 1) 1000),.int .i64 (min (max s 1) 1000)] 87)
 go_enter Tryz.func159,Tryz.ntmps159
 go_wp2_with fail
 exact bodyPost_ret (v:=.agg #[.int .i64 (min (max b 1) 1000),.int .i64 (min (max s 1) 1000)]) (by simp[results,Tryz.results159,go_sem]) rfl ⟨rfl,hB⟩
theorem aE_{a b:Int}(h:a=b):Ending.returned (.int .i64 a)=Ending.returned (.int .i64 b):=by rw[h]
def gy_(b s h:Int):Int:=match dI_ b s h with|some i=>(i:Int)|none=>-1
theorem index(b s h:Int)(w:World)(hh:-9223372036854775808<=h)(hh2:h<=9223372036854775807):Calls Tryz.prog 158 #[.agg #[.int .i64 b,.int .i64 s],.int .i64 h] w fun e w'=>e=.returned (.int .i64 (gy_ b s h))/\Below w.heap.size w w':=by
 have QN:=hi_ (fun W=>norm b s W);have h1:=c0_ b;have h2:=c0_ s;have hB1:=(Below.refl w.heap.size w).alloc (nl_) (.cells #[.int .i64 b,.int .i64 s] 87);have hsl:gy_ b s h=if h<nrm b\/(h-nrm b) % nrm s≠0\/2147483647<(h-nrm b) / nrm s then -1 else(h-nrm b) / nrm s:=by
  unfold gy_ dI_
  by_cases e:h<nrm b\/(h-nrm b) % nrm s≠0\/2147483647<(h-nrm b) / nrm s
  ·rw[if_pos e,if_pos e]
  rw[if_neg e,if_neg e];have h3:¬h<nrm b:=fun e2=>e (Or.inl e2);have h6:0<=(h-nrm b) / nrm s:=Int.ediv_nonneg (by omega) (by omega);show(((h-nrm b) / nrm s).toNat:Int)=_;omega
 have HSl:=hi_ hsl;generalize gy_ b s h=z at *;generalize nrm b=B at *;generalize nrm s=S at *;clear hsl
 go_enter Tryz.func158,Tryz.ntmps158
 go_wp2_with fail
 refine(QN.o _).mono ?_;rintro e w2 ⟨rfl,hb2⟩;have HB2:=hi_ ((hB1.trans (hb2.mono hB1.size)).alloc (Nat.le_trans hB1.size hb2.size) (.cells #[.int .i64 B,.int .i64 S] 87));clear hb2 hB1 QN
 by_cases c1:h<B
 ·go_wp2_with fail
  go_ret
  exact⟨aE_ (a:=-1) (by rw[HSl.o,if_pos (Or.inl c1)]),HB2.o⟩
 have w1:IntKind.i64.wrap (h-B)=h-B:=IntWalk.i64_in _ (by omega);have s0:¬S=0:=by omega
 by_cases c2:(h-B) % S=0
 ·by_cases c3:2147483647<(h-B) / S
  ·go_wp2_with fail
   go_ret
   exact⟨aE_ (a:=-1) (by rw[HSl.o,if_pos (Or.inr (Or.inr c3))]),HB2.o⟩
  go_wp2_with fail
  go_ret
  exact⟨aE_ (a:=(h-B) / S) (by rw[HSl.o,if_neg (fun h3=>h3.elim (fun h4=>by omega) (fun h4=>h4.elim (fun h5=>h5 c2) (fun h5=>by omega)))]),HB2.o⟩
 go_wp2_with fail
 go_ret
 exact⟨aE_ (a:=-1) (by rw[HSl.o,if_pos (Or.inr (Or.inl c2))]),HB2.o⟩
theorem mK_(b s:Int)(i:Nat)(w:World)(hi:i<=2147483647):Calls Tryz.prog 138 #[.agg #[.int .i64 b,.int .i64 s],.int .i64 i] w fun e w'=>e=.returned (.int .i64 (handle b s i))/\Below w.heap.size w w':=by
 have QN:=hi_ (fun W=>norm b s W);have h1:=c0_ b;have h2:=c0_ s;have hB1:=(Below.refl w.heap.size w).alloc (nl_) (.cells #[.int .i64 b,.int .i64 s] 87);have hm:nrm s*(i:Int)<=1000*2147483647:=Int.mul_le_mul h2.2 (by omega) (by omega) (by omega);have hm0:0<=nrm s*(i:Int):=Int.mul_nonneg (by omega) (by omega);have HH:Hd (handle b s i=nrm b+nrm s*(i:Int)):=hi_ rfl;generalize handle b s i=z at *;generalize nrm b=B at *;generalize nrm s=S at *;have w1:IntKind.i64.wrap (S*(i:Int))=S*(i:Int):=IntWalk.i64_in _ (by omega);have w2:IntKind.i64.wrap (B+S*(i:Int))=B+S*(i:Int):=IntWalk.i64_in _ (by omega);have c1:¬(i:Int)<0:=by omega
 have c2:¬2147483647<(i:Int):=by omega
 go_enter Tryz.func138,Tryz.ntmps138
 go_wp2_with fail
 refine(QN.o _).mono ?_;rintro e w2 ⟨rfl,hb2⟩;have HB2:=hi_ ((hB1.trans (hb2.mono hB1.size)).alloc (Nat.le_trans hB1.size hb2.size) (.cells #[.int .i64 B,.int .i64 S] 87));clear hb2 hB1 QN;go_wp2_with fail
 go_ret
 exact⟨aE_ (a:=B+S*(i:Int)) HH.o.symm,HB2.o⟩
end A
end
section
namespace G
theorem g1_{x y:List Nat}(i:Nat)(h:x.map odd <+: y.map odd++[2*i]):x <+: y:=by
 induction x generalizing y with
 |nil=>exact List.nil_prefix
 |cons c x ih=>
  cases y with
  |nil=>
   rw[List.map_cons,List.map_nil,List.nil_append,List.cons_prefix_cons]at h;have:=h.1;unfold odd at this;omega
  |cons d y=>
   rw[List.map_cons,List.map_cons,List.cons_append,List.cons_prefix_cons]at h;have e:c=d:=by have:=h.1;unfold odd at this;omega
   rw[e];exact(List.prefix_cons_inj d).2 (ih h.2)
theorem de_{m:aa_}(W:WF m){h p:Nat}(hp:(nd m h).parent=some p)(x:Nat):contains (cut m h p) h x=contains m h x:=by
 have W':=W.cut hp;obtain⟨h1,h2⟩:=W.lt hp;have hP:∀j,(nd (cut m h p) j).parent=if j=h then none else(nd m j).parent:=fun j=>by rw[bT_ h1 h2]
 refine W.up_ind (P:=fun x=>contains (cut m h p) h x=contains m h x) (fun x hx=>?_) (fun x q hx ih=>?_) x
 ·have hne:x≠h:=fun e=>by subst e;rw[hp]at hx;cases hx
  rw[W.contains_root hx,W'.contains_root (by rw[hP,if_neg hne];exact hx)]
 by_cases e:x=h
 ·subst e
  rw[W.contains_self,W'.contains_self]
 rw[W.contains_step hx,W'.contains_step (by rw[hP,if_neg e];exact hx),ih]
def gf_(m:aa_)(h p c:Nat)(q:Nat×Nat):Nat×Nat:=if contains m h q.1=true then(p,c)else if q.1=p/\c<q.2 then(p,q.2-1)else q
theorem lessCI{P l:List Nat}{c i:Nat}(hne:l≠P)(hc:¬P++[c] <+: l):(bs_ P (ej_ c) l).map odd++[2*i]=bs_ (P.map odd) (eM_ c) (l.map odd++[2*i]):=by
 by_cases h:P <+: l
 ·obtain⟨t,rfl⟩:=h
  cases t with
  |nil=>exact absurd (List.append_nil P) hne
  |cons j r=>
   have hj:j≠c:=fun e=>hc (by rw[e];exact⟨r,by simp⟩);rw[aH_,List.map_append,List.map_append,List.append_assoc,List.append_assoc,aH_];show _++((ej_ c (j :: r)).map odd++_)=_++eM_ c (odd j :: (r.map odd++[2*i]));rw[ej_,eM_]
   by_cases h1:j<c
   ·rw[if_pos h1,if_pos (by unfold odd;omega)];rfl
   rw[if_neg h1,if_neg (by unfold odd;omega),if_neg (by unfold odd;omega)];show _++(odd (j-1) :: r.map odd++[2*i])=_;have e:odd (j-1)=odd j-2:=by unfold odd;omega
   rw[e];rfl
 rw[bg_ h,bg_ (fun h2=>h (g1_ i h2))]
structure eA_(m m':aa_)(P:List Nat)(t:Nat)(f:List Nat->List Nat)(q q':Nat×Nat):Prop where
 ok:ef_ m' q'
 tops:G.top m' q'.1=G.top m q.1
 code:cg_ m' q'=if G.top m q.1=t then bs_ (P.map odd) f (cg_ m q)else cg_ m q
theorem iy_{m:aa_}(W:WF m){h p:Nat}(hp:(nd m h).parent=some p){q:Nat×Nat}(hq:ef_ m q) :
  eA_ m (cut m h p) (pidx m p) (top m p) (eM_ ((nd m p).kids.idxOf h)) q (gf_ m h p ((nd m p).kids.idxOf h) q):=by
 have W':=W.cut hp;obtain⟨h1,h2⟩:=W.lt hp;have hmem:=(W.par h p hp).2;have hci:=List.idxOf_lt_length_of_mem hmem;have hkp:¬2<(nd m p).kind:=fun e=>by rw[W.leaf p (by omega)]at hmem;cases hmem
 have hsz:∀x,sizeOf (cut m h p) x=if x=p then sizeOf m x-1 else sizeOf m x:=fun x=>by
  unfold sizeOf;rw[bT_ h1 h2];dsimp only
  by_cases e:x=p
  ·rw[if_pos e,if_pos e,e,if_neg hkp,if_neg hkp,List.length_erase_of_mem hmem]
  rw[if_neg e,if_neg e]
 have hsp:sizeOf m p=(nd m p).kids.length:=by unfold sizeOf;rw[if_neg hkp]
 have hcp:contains m h p=false:=by
  cases e:contains m h p with
  |false=>rfl
  |true=>
   have h3:=(W.pidx_contains p e).1.length_le;rw[W.pidx_step hp,List.length_append]at h3;simp at h3;omega
 have hpp:pidx (cut m h p) p=pidx m p:=by
  rw[(gl_ W hp p hcp).2.1 rfl];have:=aH_ (P:=pidx m p) (f:=ej_ ((nd m p).kids.idxOf h)) [];rw[List.append_nil]at this;rw[this];exact List.append_nil _
 have htp:top (cut m h p) p=top m p:=(gl_ W hp p hcp).1;unfold gf_
 by_cases c1:contains m h q.1=true
 ·rw[if_pos c1]
  obtain⟨⟨t,ht⟩,h4⟩:=W.pidx_contains _ c1;have h5:top m q.1=top m p:=by rw[<-h4,W.top_step hp]
  refine⟨⟨by rw[cK_];exact h2,by rw[hsz,if_pos rfl,hsp];show(nd m p).kids.idxOf h<=_;omega⟩,by rw[htp,h5],?_⟩;rw[if_pos h5];unfold cg_;rw[hpp,<-ht,W.pidx_step hp,List.map_append,List.map_append,List.append_assoc,List.append_assoc,aH_];show _=_++eM_ _ (odd _ :: _);rw[eM_,if_neg (by unfold odd;omega),if_pos (show odd ((nd m p).kids.idxOf h)=2*(nd m p).kids.idxOf h+1 from rfl)]
 rw[if_neg c1];have c1':contains m h q.1=false:=by simpa using c1
 obtain⟨s1,s2,s3⟩:=gl_ W hp q.1 c1'
 by_cases c2:q.1=p/\(nd m p).kids.idxOf h<q.2
 ·rw[if_pos c2]
  have h5:top m q.1=top m p:=by rw[c2.1]
  have h6:=hq.2;rw[c2.1]at h6;refine⟨⟨by rw[cK_];exact h2,by rw[hsz,if_pos rfl];show q.2-1<=sizeOf m p-1;omega⟩,by rw[htp,h5],?_⟩;rw[if_pos h5];unfold cg_;rw[hpp,c2.1,aH_,eM_,if_neg (by omega),if_neg (by omega),show 2*(q.2-1)=2*q.2-2 by omega]
 rw[if_neg c2];refine⟨⟨by rw[cK_];exact hq.1,?_⟩,s1,?_⟩
 ·rw[hsz]
  split
  ·rename_i e
   have h6:=hq.2;have h7:¬(nd m p).kids.idxOf h<q.2:=fun h8=>c2 ⟨e,h8⟩;rw[e,hsp];omega
  exact hq.2
 by_cases h5:top m q.1=top m p
 ·rw[if_pos h5]
  unfold cg_
  by_cases e:q.1=p
  ·have h7:¬(nd m p).kids.idxOf h<q.2:=fun h8=>c2 ⟨e,h8⟩
   rw[e,hpp,aH_,eM_,if_pos (by omega)]
  rw[s2 h5];refine lessCI (fun e2=>e (W.pidx_inj _ _ h5 e2)) (fun h8=>?_);rw[<-W.pidx_step hp]at h8;have:=W.contains_pidx q.1 (a:=h) (by rw[W.top_step hp,h5]) h8;exact c1 this
 rw[if_neg h5];unfold cg_;rw[s3 h5]
theorem jY_{m m':aa_}(W:WF m)(W':WF m'){P:List Nat}{t:Nat}{f:List Nat->List Nat}{a a' b b':Nat×Nat}(ha:eA_ m m' P t f a a')(hb:eA_ m m' P t f b b')(ht:top m a.1=top m b.1)(hle:lcmp m a b<=0)
  (hf:∀s u,((∃i,s=[2*i])\/∃k r,s=odd k :: r)->((∃i,u=[2*i])\/∃k r,u=odd k :: r)->cmpL s u<=0->cmpL (f s) (f u)<=0):top m' a'.1=top m' b'.1/\lcmp m' a' b'<=0:=by
 have ht':top m' a'.1=top m' b'.1:=by rw[ha.tops,hb.tops,ht]
 refine⟨ht',?_⟩;rw[bV_ W' ht',ha.code,hb.code,<-ht];rw[bV_ W ht]at hle
 split
 ·refine iH_ (fr_ (fI_ _ _) P) (fr_ (fI_ _ _) P) (fun s u hs hu h=>hf s u ?_ ?_ h) hle
  ·have:=fI_ m a
   rw[hs]at this
   rcases iF_ this with h1|⟨k,r,h1,_⟩
   ·exact Or.inl h1
   exact Or.inr ⟨k,r,h1⟩
  have:=fI_ m b;rw[hu]at this
  rcases iF_ this with h1|⟨k,r,h1,_⟩
  ·exact Or.inl h1
  exact Or.inr ⟨k,r,h1⟩
 exact hle
end G
end
section
open Go.RowKit
namespace H
structure Frame(S:Nat->Prop)(w w':World):Prop where
 os:w'.os=w.os
 tape:w'.tape=w.tape
 output:w'.output=w.output
 size:w.heap.size<=w'.heap.size
 block:∀k,k<w.heap.size->¬S k->w'.heap[k]?=w.heap[k]?
section
variable {S S':Nat->Prop} {u w w':World}
theorem Frame.refl(S:Nat->Prop)(w:World):Frame S w w:=⟨rfl,rfl,rfl,nl_,fun _ _ _=>rfl⟩
theorem Frame.of(h:Below w.heap.size w w'):Frame S w w':=⟨h.os,h.tape,h.output,h.size,fun k hk _=>h.block k hk⟩
theorem Frame.wide(h:Frame S w w')(hS:∀k,S k->S' k):Frame S' w w':=⟨h.os,h.tape,h.output,h.size,fun k hk hn=>h.block k hk (fun hs=>hn (hS k hs))⟩
theorem Frame.trans(h:Frame S u w)(k:Frame S' w w')(hS:∀b,S' b->S b\/u.heap.size<=b):Frame S u w':=
 ⟨k.os.trans h.os,k.tape.trans h.tape,k.output.trans h.output,Nat.le_trans h.size k.size,fun i hi hn=>
  (k.block i (Nat.lt_of_lt_of_le hi h.size) (fun hs=>(hS i hs).elim hn (fun hh=>by omega))).trans (h.block i hi hn)⟩
theorem Frame.below_(h:Frame S u w)(k:Below w.heap.size w w'):Frame S u w':=h.trans (S':=fun _=>False) (Frame.of k) (fun _ hb=>hb.elim)
theorem Frame.set(h:Frame S u w){g:Nat}(hg:S g\/u.heap.size<=g)(o:Nat)(v:Value):Frame S u (w.setCell ⟨g,o,none⟩ v):=
 ⟨h.os,h.tape,h.output,by have:=h.size;simpa[World.setCell]using this,fun i hi hn=>
  (Below.heap_setCell w ⟨g,o,none⟩ v i (by show i≠g;rintro rfl;exact hg.elim hn (fun hh=>by omega))).trans (h.block i hi hn)⟩
theorem Frame.alloc(h:Frame S u w)(o:Obj):Frame S u (w.alloc o):=h.below_ ((br_).alloc (nl_) o)
theorem Frame.grown(h:Frame S u w){row:Option Nat}(hg:w.grownBy w' row)(hr:∀k,row=some k->S k\/u.heap.size<=k):Frame S u w':=
 ⟨hg.os.trans h.os,hg.tape.trans h.tape,hg.output.trans h.output,Nat.le_trans h.size hg.size,fun i hi hn=>
  (hg.block i (Nat.lt_of_lt_of_le hi h.size) (fun e=>(hr i e.symm).elim hn (fun hh=>by omega))).trans (h.block i hi hn)⟩
theorem Frame.below(h:Frame S w w'){B:Nat}(hS:∀k,S k->B<=k)(hB:B<=w.heap.size):Below B w w':=
 ⟨h.os,h.tape,h.output,h.size,fun k hk=>h.block k (by omega) (fun hs=>by have:=hS k hs;omega)⟩
theorem Blk.frame{g:Nat}{cs:Array Value}{t:TypeId}(h:Blk g cs t w)(f:Frame S w w')(hn:¬S g):Blk g cs t w':=(f.block g (lt_of_block h) hn).trans h
theorem ak_{base:Nat}{e:TypeId}{size:Nat}{v:Value}{n:Nat}{xs:List Value}(h:w.ownsRow base e size v n xs)(f:Frame S w w')(hn:∀g,v.ownBlock=some g->¬S g):w'.ownsRow base e size v n xs:=by
 refine⟨h.1,?_⟩
 rcases h.2 with hz|⟨g,cap,cur,hv,hb,hg,rest⟩
 ·exact Or.inl hz
 exact Or.inr ⟨g,cap,cur,hv,hb,(f.block g (lt_of_block hg) (hn g (by rw[hv];rfl))).trans hg,rest⟩
theorem a3_{base:Nat}{e:TypeId}{size:Nat}{v:Value}{n g:Nat}{xs:List Value}(h:w.ownsRow base e size v n xs)(hg:v.ownBlock=some g):∃cur,Blk g cur e w:=by
 rcases h.2 with⟨hz,_⟩|⟨g',cap,cur,hv,hb,hgg,rest⟩
 ·rw[hz]at hg;cases hg
 rw[hv]at hg;have:g'=g:=by simpa[Value.ownBlock]using hg
 exact⟨cur,by rw[<-this];exact hgg⟩
theorem cD_{g:Nat}{a b:Array Value}{s t:TypeId}(h:Blk g a s w)(k:Blk g b t w):s=t:=by
 have h1:w.heap[g]?=some (.cells a s (0,0)):=h;have h2:w.heap[g]?=some (.cells b t (0,0)):=k;rw[h1]at h2;injection h2 with h2
 injection h2
theorem aQ_{base base':Nat}{e e':TypeId}{size size':Nat}{v v':Value}{n n' g:Nat}{xs xs':List Value}(h:w.ownsRow base e size v n xs)(h':w.ownsRow base' e' size' v' n' xs')(hne:e≠e')(hg:v.ownBlock=some g):v'.ownBlock≠some g:=by
 intro hg';obtain⟨c,hc⟩:=a3_ h hg;obtain⟨c',hc'⟩:=a3_ h' hg';exact hne (cD_ hc hc')
theorem au_{base:Nat}{e:TypeId}{size:Nat}{v:Value}{n:Nat}{xs:List Value}(h:w.ownsRow base e size v n xs){k:Nat}(hn:v.ownBlock≠some k)(o:Nat)(u:Value):(w.setCell ⟨k,o,none⟩ u).ownsRow base e size v n xs:=
 ak_ (S:=fun x=>x=k) h ((Frame.refl (fun x=>x=k) w).set (g:=k) (Or.inl rfl) o u) (fun g hg e=>hn (by rw[hg];exact congrArg some e))
end
end H
end
section
open Go.RowKit
namespace H
def lN_(xs:List Value):Nat->List Value->List Value
 |_,[]=>xs
 |k,v :: l=>lN_ (xs.set k v) (k+1) l
theorem fO_:∀(vs xs:List Value) (k:Nat),k+vs.length<=xs.length->lN_ xs k vs=xs.take k++vs++xs.drop (k+vs.length)
 |[],xs,k,_=>by simp[lN_]
 |v :: l,xs,k,h=>by
  rw[List.length_cons]at h;rw[lN_,fO_ l (xs.set k v) (k+1) (by rw[List.length_set];omega),List.length_cons];have e1:(xs.set k v).take (k+1)=xs.take k++[v]:=by
   rw[List.take_succ_eq_append_getElem (by rw[List.length_set];omega),List.getElem_set_self,List.take_set_of_le (nl_)]
  have e2:(xs.set k v).drop (k+1+l.length)=xs.drop (k+(l.length+1)):=by
   rw[List.drop_set_of_lt (by omega)]
   congr 1
   omega
  rw[e1,e2];simp
section
variable {w w0:World} {base:Nat} {e:TypeId} {size:Nat} {g n cap:Nat} {xs:List Value}
theorem b9_:∀(vs:List Value) (k:Nat) (w:World) (xs:List Value),w.ownsRow base e size (.slice (some ⟨g,0,none⟩) n cap) n xs->(w.setCells g k vs).ownsRow base e size (.slice (some ⟨g,0,none⟩) n cap) n (lN_ xs k vs)
 |[],_,_,_,h=>h
 |v :: l,k,w,xs,h=>b9_ l (k+1) _ _ (eo_ h k v)
theorem bJ_{S:Nat->Prop}:∀(vs:List Value) (k:Nat) (w:World),Frame S w0 w->(S g\/w0.heap.size<=g)->Frame S w0 (w.setCells g k vs)
 |[],_,_,h,_=>h
 |v :: l,k,w,h,hg=>bJ_ l (k+1) _ (h.set hg k v) hg
theorem dR_{b:Nat}{cs:Array Value}{t:TypeId}(hne:b≠g):∀(vs:List Value) (k:Nat) (w:World),Blk b cs t w->Blk b cs t (w.setCells g k vs)
 |[],_,_,h=>h
 |v :: l,k,w,h=>dR_ hne l (k+1) _ (h.far hne k v)
theorem fl_{B:Nat}{e':TypeId}{size' n':Nat}{v':Value}{xs':List Value}(hn:v'.ownBlock≠some g)(vs:List Value)(k:Nat)(w:World)(h:w.ownsRow B e' size' v' n' xs'):(w.setCells g k vs).ownsRow B e' size' v' n' xs':=
 ak_ (S:=fun x=>x=g) h (bJ_ vs k w (Frame.refl _ w) (Or.inl rfl)) (fun g' hg' e=>hn (by rw[hg',e]))
end
section
variable {α:Type} {c:α->List Value} {w:World} {base:Nat} {e:TypeId} {size:Nat} {g cap:Nat} {l:List α}
theorem eS_(hc:∀x,(c x).length=size):∀(l:List α) (i:Nat),(l.flatMap c).take (i*size)=(l.take i).flatMap c
 |[],i=>by simp
 |x :: l,0=>by simp
 |x :: l,i+1=>by
  rw[List.flatMap_cons,List.take_succ_cons,List.flatMap_cons,List.take_append,hc];have e1:(i+1)*size-size=i*size:=by rw[Nat.succ_mul];omega
  have e2:(c x).take ((i+1)*size)=c x:=List.take_of_length_le (by rw[hc,Nat.succ_mul];omega);rw[e1,e2,eS_ hc l i]
theorem eT_(hc:∀x,(c x).length=size):∀(l:List α) (i:Nat),(l.flatMap c).drop (i*size)=(l.drop i).flatMap c
 |[],i=>by simp
 |x :: l,0=>by simp
 |x :: l,i+1=>by
  rw[List.flatMap_cons,List.drop_succ_cons,List.drop_append,hc];have e1:(i+1)*size-size=i*size:=by rw[Nat.succ_mul];omega
  have e2:(c x).drop ((i+1)*size)=[]:=List.drop_eq_nil_of_le (by rw[hc,Nat.succ_mul];omega);rw[e1,e2,List.nil_append,eT_ hc l i]
theorem mW_(hc:∀x,(c x).length=size){i:Nat}(hi:i<l.length)(x:α):lN_ (l.flatMap c) (i*size) (c x)=(l.set i x).flatMap c:=by
 have hle:(i+1)*size<=l.length*size:=Nat.mul_le_mul_right _ hi;have e1:i*size+(c x).length=(i+1)*size:=by rw[hc,Nat.succ_mul]
 rw[fO_ _ _ _ (by rw[bY_ hc,e1];exact hle),e1,eS_ hc,eT_ hc,List.set_eq_take_append_cons_drop,if_pos hi,List.flatMap_append,List.flatMap_cons,List.append_assoc]
theorem ab_.put(hc:∀x,(c x).length=size)(h:ab_ c base e size w (.slice (some ⟨g,0,none⟩) l.length cap) l){i:Nat}(hi:i<l.length)(x:α) :
  ab_ c base e size (w.setCells g (i*size) (c x)) (.slice (some ⟨g,0,none⟩) (l.set i x).length cap) (l.set i x):=by
 have h1:=b9_ (c x) (i*size) w _ h;rw[mW_ hc hi]at h1;unfold ab_;rw[List.length_set];exact h1
theorem fJ_{B:Nat}{e':TypeId}{size' n':Nat}{v':Value}{xs':List Value}(h:w.ownsRow B e' size' v' n' xs'):∃ao cap,v'=.slice ao n' cap:=by
 rcases h.2 with⟨h1,h2⟩|⟨g,cap,cur,h1,_⟩
 ·exact⟨none,0,by rw[h1,h2]⟩
 exact⟨_,cap,h1⟩
theorem a1_{B:Nat}{e':TypeId}{size' n':Nat}{v':Value}{xs':List Value}(h:w.ownsRow B e' size' v' n' xs')(hn:0<n'):∃g cap,v'=.slice (some ⟨g,0,none⟩) n' cap/\B<=g/\g<w.heap.size/\n'<=cap:=by
 rcases h.2 with⟨h1,h2⟩|⟨g,cap,cur,h1,hb,hg,hnc,_⟩
 ·omega
 exact⟨g,cap,h1,hb,lt_of_block hg,hnc⟩
theorem fT_{xs:List Value}{n k:Nat}(h:w.ownsRow base e size (.slice (some ⟨g,0,none⟩) n cap) n xs)(hk:k<=n):w.ownsRow base e size (.slice (some ⟨g,0,none⟩) k cap) k (xs.take (k*size)):=by
 have h1:=h.1;have hle:k*size<=n*size:=Nat.mul_le_mul_right _ hk;refine⟨by rw[List.length_take,h1];omega,?_⟩
 rcases h.2 with⟨hv,_⟩|⟨g',cap',cur,hv,hb,hg,hn,hm,hcs,ht⟩
 ·cases hv
 simp only[Value.slice.injEq,Option.some.injEq,Addr.mk.injEq,and_true,true_and]at hv;obtain⟨rfl,rfl⟩:=hv;exact Or.inr ⟨g,cap,cur,rfl,hb,hg,by omega,hm,hcs,by rw[<-ht,List.take_take,Nat.min_eq_left hle]⟩
end
end H
end
section
namespace G
theorem es_{h:Nat}:∀{l:List Nat} {i:Nat},h∉l->i<=l.length->(l.take i++h :: l.drop i).idxOf h=i
 |l,0,_,_=>by simp[List.idxOf_cons]
 |[],i+1,_,hi=>by simp at hi
 |a :: l,i+1,hn,hi=>by
  rw[List.mem_cons,not_or]at hn;have e:(a==h)=false:=bn_ (fun e=>hn.1 e.symm);rw[List.take_succ_cons,List.drop_succ_cons,List.cons_append,List.idxOf_cons,e,es_ hn.2 (by simpa using hi)];rfl
theorem f9_{h x:Nat}:∀{l:List Nat} {i:Nat},x∈l->x≠h->i<=l.length->(l.take i++h :: l.drop i).idxOf x=if l.idxOf x<i then l.idxOf x else l.idxOf x+1
 |l,0,_,hne,_=>by
  have e:(h==x)=false:=bn_ (fun e=>hne e.symm);simp[List.idxOf_cons,e]
 |[],_+1,hx,_,_=>by cases hx
 |a :: l,i+1,hx,hne,hi=>by
  rw[List.take_succ_cons,List.drop_succ_cons,List.cons_append,List.idxOf_cons,List.idxOf_cons]
  by_cases e:a=x
  ·subst e
   have e2:(a==a)=true:=beq_self_eq_true a;rw[e2];simp
  have e2:(a==x)=false:=bn_ e;have hx2:x∈l:=by
   rcases List.mem_cons.1 hx with h1|h1
   ·exact absurd h1.symm e
   exact h1
  rw[e2,f9_ hx2 hne (by simpa using hi)];simp only[cond_false]
  by_cases h1:l.idxOf x<i
  ·rw[if_pos h1,if_pos (by omega)]
  rw[if_neg h1,if_neg (by omega)]
structure bN_(m:aa_)(p h i:Nat):Prop where
 wf:WF m
 wf':WF (put m p h i)
 root:(nd m h).parent=none
 hl:h<m.length
 pl:p<m.length
 out:contains m h p=false
 kind:(nd m p).kind<=2
 at_:i<=(nd m p).kids.length
theorem bN_.parent{m:aa_}{p h i:Nat}(C:bN_ m p h i)(j:Nat):(nd (put m p h i) j).parent=if j=h then some p else(nd m j).parent:=by rw[bC_ C.hl C.pl]
theorem bN_.kids{m:aa_}{p h i:Nat}(C:bN_ m p h i)(j:Nat):(nd (put m p h i) j).kids=if j=p then(nd m j).kids.take i++h :: (nd m j).kids.drop i else(nd m j).kids:=by rw[bC_ C.hl C.pl]
theorem bN_.notin{m:aa_}{p h i:Nat}(C:bN_ m p h i)(q:Nat):h∉(nd m q).kids:=fun hq=>by have:=(C.wf.kid q h hq).2;rw[C.root]at this;cases this
theorem bN_.idx{m:aa_}{p h i:Nat}(C:bN_ m p h i):(nd (put m p h i) p).kids.idxOf h=i:=by rw[C.kids,if_pos rfl];exact es_ (C.notin p) C.at_
theorem bN_.stays{m:aa_}{p h i:Nat}(C:bN_ m p h i)(x:Nat):contains m h x=false →
  top (put m p h i) x=top m x/\(top m x=top m p->pidx (put m p h i) x=bs_ (pidx m p) (ei_ i) (pidx m x))/\(top m x≠top m p->pidx (put m p h i) x=pidx m x):=by
 have W:=C.wf;have W':=C.wf';have f0:ei_ i []=[]:=rfl;refine W.up_ind (P:=fun x=>contains m h x=false->top (put m p h i) x=top m x/\(top m x=top m p->pidx (put m p h i) x=bs_ (pidx m p) (ei_ i) (pidx m x))/\(top m x≠top m p->pidx (put m p h i) x=pidx m x)) (fun x hx hc=>?_) (fun x q hx ih hc=>?_) x
 ·have hne:x≠h:=fun e=>by subst e;rw[W.contains_self]at hc;cases hc
  have hx':(nd (put m p h i) x).parent=none:=by rw[C.parent,if_neg hne];exact hx
  refine⟨by rw[W.top_root hx,W'.top_root hx'],fun ht=>?_,fun _=>by rw[ba_ hx,ba_ hx']⟩;rw[ba_ hx,ba_ hx'];unfold bs_
  split
  ·rename_i h3
   rw[List.prefix_nil.1 h3];rfl
  rfl
 rw[W.contains_step hx,Bool.or_eq_false_iff,beq_eq_false_iff_ne]at hc;obtain⟨hne,hcq⟩:=hc;have hx':(nd (put m p h i) x).parent=some q:=by rw[C.parent,if_neg (fun e=>hne e.symm)];exact hx
 obtain⟨i1,i2,i3⟩:=ih hcq;have hmem:=(W.par x q hx).2;refine⟨by rw[W.top_step hx,W'.top_step hx'];exact i1,fun ht=>?_,fun ht=>?_⟩
 ·rw[W.top_step hx]at ht
  rw[W'.pidx_step hx',i2 ht,W.pidx_step hx,C.kids]
  by_cases e:q=p
  ·subst e
   rw[if_pos rfl];have e1:bs_ (pidx m q) (ei_ i) (pidx m q)=pidx m q:=by
    have:=aH_ (P:=pidx m q) (f:=ei_ i) [];rw[List.append_nil]at this;rw[this,f0,List.append_nil]
   rw[e1,aH_,f9_ hmem (fun e=>hne e.symm) C.at_,ei_]
   split<;>rfl
  rw[if_neg e];have hlq:pidx m q≠pidx m p:=fun e2=>e (W.pidx_inj q p ht e2)
  by_cases e3:pidx m p=pidx m q++[(nd m q).kids.idxOf x]
  ·have e4:x=p:=W.pidx_inj x p (by rw[W.top_step hx];exact ht) (by rw[W.pidx_step hx,e3])
   have e5:¬pidx m p <+: pidx m q:=fun h3=>by
    have h4:=h3.length_le;rw[e3,List.length_append]at h4;simp at h4;omega
   rw[bg_ e5,<-e3];have:=aH_ (P:=pidx m p) (f:=ei_ i) [];rw[List.append_nil]at this;rw[this,f0,List.append_nil]
  rw[ft_ e3 f0 (fun a r=>kH_ _ _ _ _) hlq]
 rw[W.top_step hx]at ht;rw[W'.pidx_step hx',i3 ht,W.pidx_step hx,C.kids,if_neg (fun e=>ht (by rw[e]))]
theorem bN_.pp{m:aa_}{p h i:Nat}(C:bN_ m p h i):pidx (put m p h i) p=pidx m p/\top (put m p h i) p=top m p:=by
 obtain⟨s1,s2,_⟩:=C.stays p C.out;refine⟨?_,s1⟩;rw[s2 rfl];have:=aH_ (P:=pidx m p) (f:=ei_ i) [];rw[List.append_nil]at this;rw[this];exact List.append_nil _
theorem bN_.goes{m:aa_}{p h i:Nat}(C:bN_ m p h i)(x:Nat):contains m h x=true->top (put m p h i) x=top m p/\pidx (put m p h i) x=pidx m p++i :: pidx m x:=by
 have W:=C.wf;have W':=C.wf';obtain⟨e1,e2⟩:=C.pp;have base:top (put m p h i) h=top m p/\pidx (put m p h i) h=pidx m p++[i]:=by
  have hx':(nd (put m p h i) h).parent=some p:=by rw[C.parent,if_pos rfl]
  exact⟨by rw[W'.top_step hx',e2],by rw[W'.pidx_step hx',e1,C.idx]⟩
 refine W.up_ind (P:=fun x=>contains m h x=true->top (put m p h i) x=top m p/\pidx (put m p h i) x=pidx m p++i :: pidx m x) (fun x hx hc=>?_) (fun x q hx ih hc=>?_) x
 ·rw[W.contains_root hx]at hc
  have e:=beq_iff_eq.1 hc;subst e;rw[ba_ hx];exact base
 have hne:x≠h:=fun e=>by subst e;rw[C.root]at hx;cases hx
 rw[W.contains_step hx]at hc;have hx':(nd (put m p h i) x).parent=some q:=by rw[C.parent,if_neg hne];exact hx
 rcases Bool.or_eq_true_iff.1 hc with h3|h3
 ·exact absurd (beq_iff_eq.1 h3).symm hne
 obtain⟨i1,i2⟩:=ih h3;refine⟨by rw[W'.top_step hx',i1],?_⟩;have hqp:q≠p:=fun e=>by rw[e,C.out]at h3;cases h3
 rw[W'.pidx_step hx',i2,W.pidx_step hx,C.kids,if_neg hqp,List.append_assoc];rfl
theorem moreCI{P l:List Nat}{c i:Nat}(hne:l≠P):(bs_ P (ei_ c) l).map odd++[2*i]=bs_ (P.map odd) (fw_ c) (l.map odd++[2*i]):=by
 by_cases h:P <+: l
 ·obtain⟨t,rfl⟩:=h
  cases t with
  |nil=>exact absurd (List.append_nil P) hne
  |cons j r=>
   rw[aH_,List.map_append,List.map_append,List.append_assoc,List.append_assoc,aH_];show _++((ei_ c (j :: r)).map odd++_)=_++fw_ c (odd j :: (r.map odd++[2*i]));rw[ei_,fw_]
   by_cases h1:j<c
   ·rw[if_pos h1,if_pos (by unfold odd;omega)];rfl
   rw[if_neg h1,if_neg (by unfold odd;omega)];show _++(odd (j+1) :: r.map odd++[2*i])=_;have e:odd (j+1)=odd j+2:=by unfold odd;omega
   rw[e];rfl
 rw[bg_ h,bg_ (fun h2=>h (g1_ i h2))]
def eu_(p i:Nat)(q:Nat×Nat):Nat×Nat:=if q.1=p/\i<q.2 then(p,q.2+1)else q
theorem bN_.size{m:aa_}{p h i:Nat}(C:bN_ m p h i)(x:Nat):sizeOf (put m p h i) x=if x=p then sizeOf m x+1 else sizeOf m x:=by
 have hk:=C.kind;unfold sizeOf;rw[bC_ C.hl C.pl];dsimp only
 by_cases e:x=p
 ·rw[if_pos e,if_pos e,e,if_neg (by omega),if_neg (by omega),List.length_append,List.length_cons,List.length_take,List.length_drop]
  have:=C.at_;omega
 rw[if_neg e,if_neg e]
theorem bN_.moved{m:aa_}{p h i:Nat}(C:bN_ m p h i){q:Nat×Nat}(hq:ef_ m q)(hc:contains m h q.1=false):eA_ m (put m p h i) (pidx m p) (top m p) (fw_ i) q (eu_ p i q):=by
 have W:=C.wf;obtain⟨e1,e2⟩:=C.pp;obtain⟨s1,s2,s3⟩:=C.stays q.1 hc;have hk:=C.kind;have hsp:sizeOf m p=(nd m p).kids.length:=by unfold sizeOf;rw[if_neg (by omega)]
 unfold eu_
 by_cases c2:q.1=p/\i<q.2
 ·rw[if_pos c2]
  have h5:top m q.1=top m p:=by rw[c2.1]
  have h6:=hq.2;rw[c2.1]at h6;refine⟨⟨by rw[bw_];exact C.pl,by rw[C.size,if_pos rfl];show q.2+1<=sizeOf m p+1;omega⟩,by rw[e2,h5],?_⟩;rw[if_pos h5];unfold cg_;rw[e1,c2.1,aH_,fw_,if_neg (by omega),show 2*(q.2+1)=2*q.2+2 by omega]
 rw[if_neg c2];refine⟨⟨by rw[bw_];exact hq.1,?_⟩,s1,?_⟩
 ·rw[C.size]
  have:=hq.2
  split<;>omega
 by_cases h5:top m q.1=top m p
 ·rw[if_pos h5]
  unfold cg_
  by_cases e:q.1=p
  ·have h7:¬i<q.2:=fun h8=>c2 ⟨e,h8⟩
   rw[e,e1,aH_,fw_,if_pos (by omega)]
  rw[s2 h5];exact moreCI (fun e2=>e (W.pidx_inj _ _ h5 e2))
 rw[if_neg h5];unfold cg_;rw[s3 h5]
theorem put_le{m:aa_}{p h i:Nat}(C:bN_ m p h i){a b:Nat×Nat}(ha:ef_ m a)(hb:ef_ m b)(ht:top m a.1=top m b.1)(hle:lcmp m a b<=0) :
  ef_ (put m p h i) (eu_ p i a)/\ef_ (put m p h i) (eu_ p i b)/\top (put m p h i) (eu_ p i a).1=top (put m p h i) (eu_ p i b).1/\lcmp (put m p h i) (eu_ p i a) (eu_ p i b)<=0:=by
 have W:=C.wf;have hth:∀x,contains m h x=true↔top m x=h:=fun x=>by
  constructor
  ·intro hx
   rw[<-(W.pidx_contains x hx).2,W.top_root C.root]
  intro hx;have:=W.top_contains x
  rwa [hx]at this
 by_cases hc:contains m h a.1=true
 ·have hcb:contains m h b.1=true:=(hth _).2 (by rw[<-ht];exact(hth _).1 hc)
  have na:eu_ p i a=a:=by unfold eu_;rw[if_neg (fun e=>by rw[e.1,C.out]at hc;cases hc)]
  have nb:eu_ p i b=b:=by unfold eu_;rw[if_neg (fun e=>by rw[e.1,C.out]at hcb;cases hcb)]
  obtain⟨g1,g2⟩:=C.goes a.1 hc;obtain⟨g3,g4⟩:=C.goes b.1 hcb;have hsz:∀x,contains m h x=true->sizeOf (put m p h i) x=sizeOf m x:=fun x hx=>by rw[C.size,if_neg (fun e=>by rw[e,C.out]at hx;cases hx)]
  rw[na,nb];have ht':top (put m p h i) a.1=top (put m p h i) b.1:=by rw[g1,g3]
  refine⟨⟨by rw[bw_];exact ha.1,by rw[hsz _ hc];exact ha.2⟩,⟨by rw[bw_];exact hb.1,by rw[hsz _ hcb];exact hb.2⟩,ht',?_⟩;rw[bV_ C.wf' ht'];rw[bV_ W ht]at hle;unfold cg_ at hle ⊢;rw[g2,g4,List.map_append,List.map_append,List.append_assoc,List.append_assoc,d9_];show cmpL (odd i :: _) (odd i :: _)<=0;rw[cmpL,if_neg (Nat.lt_irrefl _),if_neg (Nat.lt_irrefl _)];exact hle
 have hcb:¬contains m h b.1=true:=fun e=>hc ((hth _).2 (by rw[ht];exact(hth _).1 e));have ma:=C.moved ha (by simpa using hc);have mb:=C.moved hb (by simpa using hcb);obtain⟨r1,r2⟩:=jY_ W C.wf' ma mb ht hle (fun s u _ _ h=>l9_ h);exact⟨ma.ok,mb.ok,r1,r2⟩
theorem o8_{m:aa_}(W:WF m){h p:Nat}(hp:(nd m h).parent=some p){a b:Nat×Nat}(ha:ef_ m a)(hb:ef_ m b)(ht:top m a.1=top m b.1)(hle:lcmp m a b<=0) :
  ef_ (cut m h p) (gf_ m h p ((nd m p).kids.idxOf h) a)/\ef_ (cut m h p) (gf_ m h p ((nd m p).kids.idxOf h) b)/\top (cut m h p) (gf_ m h p ((nd m p).kids.idxOf h) a).1=top (cut m h p) (gf_ m h p ((nd m p).kids.idxOf h) b).1/\lcmp (cut m h p) (gf_ m h p ((nd m p).kids.idxOf h) a) (gf_ m h p ((nd m p).kids.idxOf h) b)<=0:=by
 have ma:=iy_ W hp ha;have mb:=iy_ W hp hb;obtain⟨r1,r2⟩:=jY_ W (W.cut hp) ma mb ht hle (fun s u hs hu h=>mo_ hs hu h);exact⟨ma.ok,mb.ok,r1,r2⟩
end G
end
section
open Go.RowKit
namespace T
theorem ks_{W:World}{base:Nat}{v:Value}{l:List UInt8}(h:W.ownsRow base 5 1 v l.length (Lib.byteCells l)) :
  (convert 118 9 v).run Tryz.prog W=.ok (.string ⟨l.toArray⟩) W:=by
 rcases h.2 with⟨rfl,h0⟩|⟨g,cap,cur,rfl,hb,hg,_,_,hcs,htk⟩
 ·have:l=[]:=List.eq_nil_of_length_eq_zero h0
  subst this;exact Lib.run_convert_nil_bytes W 118 9 5 0 Tryz.underlying118 Tryz.underlying5 Tryz.underlying9
 refine run_convert_bytes_back W 118 9 5 ⟨g,0,none⟩ cap l Tryz.underlying118 Tryz.underlying5 Tryz.underlying9 (Lib.bytes_of_row (l:=l) hg (by simpa using htk))
theorem dS_(s:ByteArray)(k n:Nat)(h:k+n<=s.size):(s.extract k (k+n)).data.toList=(s.data.toList.drop k).take n:=by
 rw[Lib.extract_data,Nat.add_sub_cancel_left]
def RepRel(s:ByteArray)(w:World)(v i:Value)(wr:World):Prop:=
 ∃(k:Nat) (acc:List UInt8),k<=s.size/\i=.int .i64 k/\wr.ownsRow w.heap.size 5 1 v acc.length (Lib.byteCells acc)/\Below w.heap.size w wr/\Hd (acc++U.rep (s.data.toList.drop k)=U.rep s.data.toList)/\acc.length<=3*k
theorem refRepair(s:ByteArray)(w:World)(hs:s.size<=1000000) :
  Calls Tryz.prog 113 #[.string s] w fun e w'=>e=.returned (.string ⟨(U.rep s.data.toList).toArray⟩)/\Below w.heap.size w w':=by
 obtain⟨i0,hi,hz0,hz1,hz2⟩:=info_parts Bld.infoByte
 go_enter Tryz.func113,Tryz.ntmps113
 go_wp2_with fail
 go_loopw [3,4] (fun v i wr=>RepRel s w v i wr) (fun _ i _=>s.size-(Go.RowKit.intOf i).toNat)
 case atStart=>exact⟨0,[],Nat.zero_le _,rfl,World.ownsRow_nil _ _ _ _,br_,hi_ rfl,Nat.zero_le _⟩
 obtain⟨k,acc,hk,rfl,hown,hB,HA,hal⟩:=hrel;have hbs:=hB.size
 by_cases hlt:k<s.size
 ·have hne:s.data.toList.drop k≠[]:=by rw[eX_ s k hlt];exact List.cons_ne_nil _ _
  have HN:=hi_ (U.c7_ _ hne);clear hne;have hle:=U.fv_ (s.data.toList.drop k);rw[List.length_drop,U.dw_]at hle
  by_cases h0:U.sz (s.data.toList.drop k)=0
  ·have HZ:=hi_ h0
   have hc:∀W,Calls Tryz.prog 105 #[.string s,.int .i64 k] W fun e w'=>e=.returned (.int .i64 0)/\W=w':=fun W=>by
    have:=i1_ s (k:Int) W (by omega) (by omega) (by omega);rw[Int.toNat_natCast,h0]at this;exact this
   have HC:=hi_ hc;clear h0 hle hc;go_wp2_with (first|(go_at_call 105;refine(HC.o _).mono ?_;rintro e w' ⟨rfl,rfl⟩)|(at_builtin;refine wpList_append_own _ rfl _ _ 118 rfl w.heap.size 5 i0 (.int .u8 0) 1 1 Tryz.underlying118 hi hz0 hz1 hz2 rfl (by decide) _ _ _ rfl (hown.alloc _) ⟨wr.heap.size,0,none⟩ 3 3 [.int .u8 239,.int .u8 191,.int .u8 189] rfl rfl ?c1 ?c2 ?c3 ?c4 ?c5 ?_))
   case c1=>
    intro j u hj
    match j,hj with
    |0,hj=>simp at hj;subst hj;simp[Addr.add]
    |1,hj=>simp at hj;subst hj;simp[Addr.add]
    |2,hj=>simp at hj;subst hj;simp[Addr.add]
   case c2=>intro u hu;simp at hu;rcases hu with rfl|rfl|rfl<;>rfl
   case c3=>unfold maxLen;omega
   case c4=>omega
   case c5=>simp;omega
   intro v' w2 hown' hgrow _;have hB2:=(hB.alloc hbs (.cells #[.int .u8 239,.int .u8 191,.int .u8 189] 5)).grown hgrow (by simp;omega) (fun q hq=>(hown.lt q hq).1);go_wp2_with fail
   go_roundw
   case rel=>
    refine⟨k+1,acc++[239,191,189],by omega,by go_num,?_,hB2,hi_ ?_,by simp;omega⟩
    ·rw[Lib.byteCells_append,show Lib.byteCells [239,191,189]=[.int .u8 239,.int .u8 191,.int .u8 189]from rfl];simpa using hown'
    have h3:=HA.o;rw[HN.o]at h3;unfold U.a7_ U.adv at h3;rw[if_pos HZ.o,if_pos HZ.o,List.drop_drop,<-List.append_assoc]at h3;exact h3
   simp[Go.RowKit.intOf];omega
  have HZ:=hi_ h0;have hc:∀W,Calls Tryz.prog 105 #[.string s,.int .i64 k] W fun e w'=>e=.returned (.int .i64 (U.sz (s.data.toList.drop k)))/\W=w':=fun W=>by
   have:=i1_ s (k:Int) W (by omega) (by omega) (by omega);rw[Int.toNat_natCast]at this;exact this
  have h4:=U.lE_ (s.data.toList.drop k);generalize hm:U.sz (s.data.toList.drop k)=m at *;have HM:=hi_ hm;have HC:=hi_ hc;have hpos:0<m:=by omega
  have t0:((m:Int)==0)=false:=bn_ (by omega);clear hc hm h0;have hse:(s.extract k (k+m)).size=m:=by rw[<-U.dw_,dS_ s k m (by omega)];simp;omega
  have HS:=hi_ hse;clear hse;have hkm:k+m<=s.size:=by omega
  have hkm':(k:Int)+(m:Int)<=(s.size:Int):=by omega
  go_wp2_with (first|(go_at_call 105;refine(HC.o _).mono ?_;rintro e w' ⟨rfl,rfl⟩)|(at_builtin;refine Lib.wpList_append_own_string _ rfl _ _ 118 9 rfl w.heap.size 5 i0 Tryz.underlying118 Tryz.underlying9 hi hz0 hz1 hz2 _ _ _ rfl hown (s.extract k (k+m)) rfl ?c3 ?c4 ?c5 ?_))
  case c3=>rw[HS.o];unfold maxLen;omega
  case c4=>rw[HS.o];omega
  case c5=>omega
  intro v' w2 hown' hgrow _;have hB2:=hB.grown hgrow hbs (fun q hq=>(hown.lt q hq).1);rw[Lib.strCells_eq,dS_ s k m (by omega)]at hown';go_wp2_with fail
  go_roundw
  case rel=>
   refine⟨k+m,acc++(s.data.toList.drop k).take m,by omega,by go_num,?_,hB2,hi_ ?_,by simp;omega⟩
   ·rw[Lib.byteCells_append]
    have:(acc++(s.data.toList.drop k).take m).length=acc.length+m:=by simp;omega
    rw[this];exact hown'
   have h3:=HA.o;rw[HN.o]at h3;unfold U.a7_ U.adv at h3;rw[HM.o,if_neg HZ.o,if_neg HZ.o,List.drop_drop,<-List.append_assoc]at h3;exact h3
  simp[Go.RowKit.intOf];omega
 have hback:=ks_ hown;have h3:=HA.o;rw[eW_ s k hlt,U.dM_,List.append_nil]at h3;rw[h3]at hback;have HBk:=hi_ hback;clear h3;go_wp2_with fail
 go_ret
 exact⟨rfl,hB⟩
end T
end
section
namespace G
end G
end
section
namespace U
theorem hb_:∀(n:Nat) (l:List UInt8) (c:List UInt8),c∈chunks n l->∃l',l'≠[]/\c=a7_ l'
 |0,l,c,h=>by unfold chunks at h;simp at h
 |n+1,[],c,h=>by unfold chunks at h;simp at h
 |n+1,x :: l,c,h=>by
  unfold chunks at h
  rcases List.mem_cons.1 h with e|h
  ·exact⟨x :: l,by simp,e⟩
  exact hb_ n _ c h
theorem i5_{l c:List UInt8}(h:c∈pts l):∃l',l'≠[]/\c=a7_ l':=hb_ _ _ _ h
theorem jN_:∀(L:List (List UInt8)),(∀c∈L,∃l',l'≠[]/\c=a7_ l')->pts L.flatten=L
 |[],_=>rfl
 |c :: L,h=>by
  obtain⟨l,hl,rfl⟩:=h c (List.mem_cons_self ..);rw[List.flatten_cons,d1_ _ (dN_ l _ hl),gq_ l _ hl,e1_ l _ hl,List.drop_left,jN_ L (fun d hd=>h d (List.mem_cons_of_mem _ hd))]
def splice(d s:List UInt8)(i c:Nat):List UInt8:=((pts d).take i).flatten++rep s++((pts d).drop (i+c)).flatten
theorem gZ_(d s:List UInt8)(i c:Nat):pts (splice d s i c)=(pts d).take i++pts s++(pts d).drop (i+c):=by
 have e:splice d s i c=((pts d).take i++pts s++(pts d).drop (i+c)).flatten:=by
  unfold splice rep;rw[List.flatten_append,List.flatten_append]
 rw[e];refine jN_ _ fun x hx=>?_
 rcases List.mem_append.1 hx with hx|hx
 ·rcases List.mem_append.1 hx with hx|hx
  ·exact i5_ (List.mem_of_mem_take hx)
  exact i5_ hx
 exact i5_ (List.mem_of_mem_drop hx)
theorem kx_(d s:List UInt8)(i c:Nat):rep (splice d s i c)=splice d s i c:=by
 unfold rep;rw[gZ_,List.flatten_append,List.flatten_append];rfl
end U
namespace G
structure Shape(m m':aa_):Prop where
 wf:WF m
 wf':WF m'
 par:∀i,(nd m' i).parent=(nd m i).parent
 kid:∀i,(nd m' i).kids=(nd m i).kids
theorem Shape.tops{m m':aa_}(S:Shape m m')(x:Nat):top m' x=top m x/\pidx m' x=pidx m x:=by
 refine S.wf.up_ind (P:=fun x=>top m' x=top m x/\pidx m' x=pidx m x) (fun x hx=>?_) (fun x p hx ih=>?_) x
 ·have hx':=(S.par x).trans hx
  exact⟨by rw[S.wf.top_root hx,S.wf'.top_root hx'],by rw[ba_ hx,ba_ hx']⟩
 have hx':=(S.par x).trans hx;exact⟨by rw[S.wf.top_step hx,S.wf'.top_step hx',ih.1],by rw[S.wf.pidx_step hx,S.wf'.pidx_step hx',ih.2,S.kid]⟩
theorem Shape.code{m m':aa_}(S:Shape m m')(q:Nat×Nat):cg_ m' q=cg_ m q:=by unfold cg_;rw[(S.tops q.1).2]
theorem Shape.lcmp{m m':aa_}(S:Shape m m'){a b:Nat×Nat}(ht:top m a.1=top m b.1):G.lcmp m' a b=G.lcmp m a b:=by
 rw[bV_ S.wf ht,bV_ S.wf' (by rw[(S.tops a.1).1,(S.tops b.1).1,ht]),S.code,S.code]
def bQ_(m:aa_)(h:Nat)(d:Bytes):aa_:=upd m h fun x=>{ x with data:=d }
theorem d4_{m:aa_}{h:Nat}{d:Bytes}(hl:h<m.length)(j:Nat):nd (bQ_ m h d) j={ nd m j with data:=if j=h then d else(nd m j).data }:=by
 unfold bQ_;rw[cn_ hl]
 by_cases e:j=h
 ·simp only[if_pos e]
 simp only[if_neg e]
theorem eE_{m:aa_}(W:WF m){h:Nat}{d:Bytes}(hl:h<m.length):Shape m (bQ_ m h d):=
 ⟨W,W.same (by unfold bQ_;simp) (fun i=>by rw[d4_ hl];exact⟨rfl,rfl,rfl,rfl⟩),fun i=>by rw[d4_ hl],fun i=>by rw[d4_ hl]⟩
def db_(h i c z:Nat)(q:Nat×Nat):Nat×Nat:=if q.1=h/\i<q.2 then(if q.2<=i+c then(h,i) else(h,q.2-c+z))else q
theorem data_le{m:aa_}(W:WF m){h i c:Nat}{s:Bytes}(hk:2<(nd m h).kind)(hi:i+c<=(U.pts (nd m h).data).length){a b:Nat×Nat}(ha:ef_ m a)(hb:ef_ m b)(ht:top m a.1=top m b.1)(hle:lcmp m a b<=0) :
  let m':=bQ_ m h (U.splice (nd m h).data s i c)
  let g:=db_ h i c (U.pts s).length
  ef_ m' (g a)/\ef_ m' (g b)/\top m' (g a).1=top m' (g b).1/\lcmp m' (g a) (g b)<=0:=by
 intro m' g;have hl:h<m.length:=by
  rcases Nat.lt_or_ge h m.length with h1|h1
  ·exact h1
  rw[c1_ h1]at hk;exact absurd hk (by decide)
 have S:Shape m m':=eE_ W hl;have hsz:∀x,sizeOf m' x=if x=h then(U.pts (nd m h).data).length-c+(U.pts s).length else sizeOf m x:=fun x=>by
  have e:nd m' x={ nd m x with data:=if x=h then U.splice (nd m h).data s i c else(nd m x).data }:=d4_ hl x;unfold sizeOf;rw[e];dsimp only
  by_cases e1:x=h
  ·rw[if_pos e1,if_pos e1,e1,if_pos hk,U.gZ_,List.length_append,List.length_append,List.length_take,List.length_drop]
   omega
  rw[if_neg e1,if_neg e1]
 have hsh:sizeOf m h=(U.pts (nd m h).data).length:=by unfold sizeOf;rw[if_pos hk]
 have g1:∀q,(g q).1=q.1:=fun q=>by
  show(db_ _ _ _ _ q).1=q.1;unfold db_
  split
  ·rename_i e
   split<;>exact e.1.symm
  rfl
 have gok:∀q,ef_ m q->ef_ m' (g q):=fun q hq=>by
  refine⟨by rw[g1];show q.1<(bQ_ m h _).length;unfold bQ_;rw[cV_];exact hq.1,?_⟩;rw[g1,hsz];have h2:=hq.2
  by_cases e:q.1=h
  ·rw[if_pos e]
   rw[e,hsh]at h2;show(db_ _ _ _ _ q).2<=_;unfold db_
   split
   ·split
    ·show i<=_;omega
    show q.2-c+_<=_;omega
   rename_i h3
   have:¬i<q.2:=fun h4=>h3 ⟨e,h4⟩;omega
  rw[if_neg e];have:g q=q:=by show db_ _ _ _ _ q=q;unfold db_;rw[if_neg (fun h3=>e h3.1)]
  rw[this];exact h2
 have htt:top m' (g a).1=top m' (g b).1:=by rw[g1,g1,(S.tops _).1,(S.tops _).1,ht]
 refine⟨gok a ha,gok b hb,htt,?_⟩;rw[S.lcmp (by rw[g1,g1];exact ht)];have hleaf:∀(x:Nat×Nat),x.1≠h->∀k,lcmp m x (h,k)=lcmp m x (h,0):=fun x hx k=>mp_ W hk hx k;have gne:∀q,q.1≠h->g q=q:=fun q hq=>by show db_ _ _ _ _ q=q;unfold db_;rw[if_neg (fun h3=>hq h3.1)]
 have geq:∀q,q.1=h->∃k,g q=(h,k):=fun q hq=>⟨(g q).2,by rw[<-hq,<-g1 q]⟩
 by_cases ea:a.1=h
 ·by_cases eb:b.1=h
  ·have hl2:∀(x y:Nat×Nat),x.1=h->y.1=h->(lcmp m x y<=0↔x.2<=y.2):=fun x y hx hy=>by
    unfold lcmp;rw[if_pos (hx.trans hy.symm)]
    by_cases h1:x.2<y.2
    ·rw[if_pos h1];constructor<;>intro<;>omega
    rw[if_neg h1]
    by_cases h2:y.2<x.2
    ·rw[if_pos h2];constructor<;>intro<;>omega
    rw[if_neg h2];constructor<;>intro<;>omega
   rw[hl2 _ _ (by rw[g1];exact ea) (by rw[g1];exact eb)];rw[hl2 a b ea eb]at hle;have e2:∀q:Nat×Nat,q.1=h->(g q).2=if i<q.2 then(if q.2<=i+c then i else q.2-c+(U.pts s).length)else q.2:=fun q hq=>by
    show(db_ _ _ _ _ q).2=_;unfold db_
    by_cases h1:i<q.2
    ·rw[if_pos ⟨hq,h1⟩,if_pos h1]
     split<;>rfl
    rw[if_neg (fun h3=>h1 h3.2),if_neg h1]
   rw[e2 a ea,e2 b eb]
   split
   ·split
    ·split
     ·split
      ·omega
      omega
     omega
    split
    ·split
     ·omega
     omega
    omega
   split
   ·split
    ·omega
    omega
   exact hle
  obtain⟨k,hka⟩:=geq a ea;have eb':=gne b eb;have haa:a=(h,a.2):=by rw[<-ea]
  rw[hka,eb'];rw[haa]at hle;rw[hw_ W (a:=b) (b:=(h,k)) (by rw[<-ht,ea]),hleaf b eb k];rw[hw_ W (a:=b) (b:=(h,a.2)) (by rw[<-ht,ea]),hleaf b eb a.2]at hle;exact hle
 have ea':=gne a ea
 by_cases eb:b.1=h
 ·obtain⟨k,hkb⟩:=geq b eb
  have hbb:b=(h,b.2):=by rw[<-eb]
  rw[ea',hkb,hleaf a ea k];rw[hbb,hleaf a ea b.2]at hle;exact hle
 rw[ea',gne b eb];exact hle
end G
end
section
namespace G
theorem ic_(m:aa_)(a:Nat×Nat):lcmp m a a=0:=by
 unfold lcmp;rw[if_pos rfl];simp
structure Rec where
 kind:Nat
 target:Nat
 node:Option Nat
 prev:Option Nat
 next:Option Nat
 index:Nat
 name:Bytes
 old:Bytes
 had:Bool
 count:Nat
 size:Nat
def dq_(l:List Nat)(i:Nat):Option Nat:=if i=0 then none else l[i-1]?
def bm_(m:aa_)(h p:Nat):Rec:=⟨2,p,some h,dq_ (nd m p).kids ((nd m p).kids.idxOf h),(nd m p).kids[(nd m p).kids.idxOf h+1]?,(nd m p).kids.idxOf h,[],[],false,0,0⟩
def cY_(m:aa_)(p h i:Nat):Rec:=⟨1,p,some h,dq_ (nd m p).kids i,(nd m p).kids[i]?,i,[],[],false,0,0⟩
def may(m:aa_)(p h:Nat):Bool:=
 !((nd m h).kind==1) && !(contains m h p) && ((nd m p).kind==2 || ((nd m p).kind==1 && (nd m h).kind==4) || ((nd m p).kind==1 && (nd m h).kind==2 && (nd m p).kids.all (fun k=>k==h || (nd m k).kind != 2)))
def out(m:aa_)(h:Nat):aa_:=match (nd m h).parent with|none=>m|some q=>cut m h q
def a6_(m:aa_)(h:Nat):List Rec:=match (nd m h).parent with|none=>[]|some q=>[bm_ m h q]
def aA_(m:aa_)(h:Nat)(b:Option Nat):Option Nat:=
 if b=some h then(match (nd m h).parent with|none=>none|some q=>(nd m q).kids[(nd m q).kids.idxOf h+1]?)else b
def placeOf(m:aa_)(p:Nat)(b:Option Nat):Nat:=match b with|none=>(nd m p).kids.length|some x=>(nd m p).kids.idxOf x
def insert(m:aa_)(p h:Nat)(b:Option Nat):List Rec×Nat×aa_:=
 if may m p h=false\/(∃x,b=some x/\(nd m x).parent≠some p) then([],10,m)
 else if 128<depth m p+ay_ m h then([],5,m)
 else(a6_ m h++[cY_ (out m h) p h (placeOf (out m h) p (aA_ m h b))],0,put (out m h) p h (placeOf (out m h) p (aA_ m h b)))
theorem nm_{m:aa_}(W:WF m){h q:Nat}(hq:(nd m h).parent=some q)(x:Nat):contains m h x=false->anc (cut m h q) x=anc m x:=by
 have W':=W.cut hq;obtain⟨h1,h2⟩:=W.lt hq;have hP:∀j,(nd (cut m h q) j).parent=if j=h then none else(nd m j).parent:=fun j=>by rw[bT_ h1 h2]
 refine W.up_ind (P:=fun x=>contains m h x=false->anc (cut m h q) x=anc m x) (fun x hx hc=>?_) (fun x p hx ih hc=>?_) x
 ·have hne:x≠h:=fun e=>by subst e;rw[W.contains_self]at hc;cases hc
  have hx':(nd (cut m h q) x).parent=none:=by rw[hP,if_neg hne];exact hx
  rw[W.anc_root hx,W'.anc_root hx']
 have hne:x≠h:=fun e=>by subst e;rw[W.contains_self]at hc;cases hc
 have hx':(nd (cut m h q) x).parent=some p:=by rw[hP,if_neg hne];exact hx
 rw[W.contains_step hx,Bool.or_eq_false_iff]at hc;rw[W.anc_step hx,W'.anc_step hx',ih hc.2]
theorem kX_{m:aa_}(W:WF m){h q:Nat}(hq:(nd m h).parent=some q)(x:Nat):contains m x q=false->ay_ (cut m h q) x=ay_ m x:=by
 have W':=W.cut hq;obtain⟨h1,h2⟩:=W.lt hq;refine W.down_ind (P:=fun x=>contains m x q=false->ay_ (cut m h q) x=ay_ m x) (fun x ih hx=>?_) x;have hne:x≠q:=fun e=>by subst e;rw[W.contains_self]at hx;cases hx
 rw[W.height_eq,W'.height_eq,bT_ h1 h2];dsimp only;rw[if_neg hne];refine congrArg (fun l=>eC_ l+1) (List.map_congr_left fun c hc=>ih c hc ?_)
 cases e:contains m c q with
 |false=>rfl
 |true=>rw[W.contains_kid hc e]at hx;cases hx
theorem WF.parent_out{m:aa_}(W:WF m){h q:Nat}(hq:(nd m h).parent=some q):contains m h q=false:=by
 cases e:contains m h q with
 |false=>rfl
 |true=>
  have h3:=(W.pidx_contains q e).1.length_le;rw[W.pidx_step hq,List.length_append]at h3;simp at h3;omega
theorem fU_{m:aa_}(W:WF m){h p:Nat}(hl:h<m.length)(hpl:p<m.length)(hc:contains m h p=false) :
  WF (out m h)/\(out m h).length=m.length/\(nd (out m h) h).parent=none/\(∀x,contains (out m h) h x=contains m h x)/\depth (out m h) p=depth m p/\ay_ (out m h) h=ay_ m h ∧
  (∀j,(nd (out m h) j).kind=(nd m j).kind/\(nd (out m h) j).gone=(nd m j).gone):=by
 unfold out
 cases hq:(nd m h).parent with
 |none=>exact⟨W,rfl,hq,fun _=>rfl,rfl,rfl,fun _=>⟨rfl,rfl⟩⟩
 |some q=>
  obtain⟨h1,h2⟩:=W.lt hq;refine⟨W.cut hq,cK_ _ _ _,by rw[bT_ h1 h2];simp,de_ W hq,?_,kX_ W hq h (W.parent_out hq),fun j=>by rw[bT_ h1 h2];exact⟨rfl,rfl⟩⟩;unfold depth;rw[nm_ W hq p hc]
theorem f0_{m:aa_}(W:WF m){p h:Nat}(hm:may m p h=true):contains m h p=false/\(nd m h).kind≠1/\(nd m p).kind<=2:=by
 unfold may at hm;simp only[Bool.and_eq_true,Bool.or_eq_true,Bool.not_eq_true',beq_iff_eq,beq_eq_false_iff_ne]at hm;obtain⟨⟨h1,h2⟩,h3⟩:=hm;refine⟨h2,h1,?_⟩
 rcases h3 with(h3|⟨h3,_⟩)|⟨⟨h3,_⟩,_⟩<;>omega
theorem g5_{m:aa_}(W:WF m){p h:Nat}{b:Option Nat}(hl:h<m.length)(hpl:p<m.length)(hg:(nd m h).gone=(nd m p).gone)(hok:(insert m p h b).2.1=0) :
  bN_ (out m h) p h (placeOf (out m h) p (aA_ m h b))/\insert m p h b=(a6_ m h++[cY_ (out m h) p h (placeOf (out m h) p (aA_ m h b))],0,put (out m h) p h (placeOf (out m h) p (aA_ m h b))):=by
 unfold insert at hok ⊢
 by_cases c1:may m p h=false\/(∃x,b=some x/\(nd m x).parent≠some p)
 ·rw[if_pos c1]at hok;cases hok
 rw[if_neg c1]at hok ⊢
 by_cases c2:128<depth m p+ay_ m h
 ·rw[if_pos c2]at hok;cases hok
 rw[if_neg c2];refine⟨?_,rfl⟩;have hm:may m p h=true:=by
  cases e:may m p h with
  |true=>rfl
  |false=>exact absurd (Or.inl e) c1
 obtain⟨m1,m2,m3⟩:=f0_ W hm;obtain⟨o1,o2,o3,o4,o5,o6,o7⟩:=fU_ W hl hpl m1;have h0:h≠0:=fun e=>m2 (by rw[e];exact W.doc.2.1);have hcp:contains (out m h) h p=false:=by rw[o4];exact m1
 refine⟨o1,o1.put o3 h0 (by rw[o2];exact hl) (by rw[o2];exact hpl) hcp (by rw[o5,o6];omega) (by rw[(o7 p).1];exact m3) (by rw[(o7 h).2,(o7 p).2];exact hg),o3,by rw[o2];exact hl,by rw[o2];exact hpl,hcp,by rw[(o7 p).1];exact m3,?_⟩
 cases hb:aA_ m h b with
 |none=>exact nl_
 |some x=>exact List.idxOf_le_length
def bi_(m':aa_)(r:Rec)(q:Nat×Nat):Nat×Nat:=
 if r.kind=2/\(∃h,r.node=some h/\contains m' h q.1=true) then(r.target,r.index)
 else if q.1≠r.target\/q.2<=r.index then q
 else if r.kind=1 then(q.1,q.2+1)
 else if r.kind=2 then(q.1,q.2-1)
 else if r.kind=4 then(if q.2<=r.index+r.count then(q.1,r.index) else(q.1,q.2-r.count+r.size))
 else q
theorem fj_{m:aa_}{p h i:Nat}(C:bN_ m p h i)(x:Nat):contains (put m p h i) h x=contains m h x:=by
 have W:=C.wf;have W':=C.wf';have base:contains (put m p h i) h p=false:=by
  refine W.up_ind (P:=fun y=>contains m h y=false->contains (put m p h i) h y=false) (fun y hy hc=>?_) (fun y q hy ih hc=>?_) p C.out
  ·have hne:y≠h:=fun e=>by subst e;rw[W.contains_self]at hc;cases hc
   rw[W'.contains_root (by rw[C.parent,if_neg hne];exact hy),beq_eq_false_iff_ne];exact fun e=>hne e.symm
  have hne:y≠h:=fun e=>by subst e;rw[W.contains_self]at hc;cases hc
  rw[W.contains_step hy,Bool.or_eq_false_iff]at hc;rw[W'.contains_step (by rw[C.parent,if_neg hne];exact hy),ih hc.2,Bool.or_false];exact hc.1
 refine W.up_ind (P:=fun x=>contains (put m p h i) h x=contains m h x) (fun x hx=>?_) (fun x q hx ih=>?_) x
 ·by_cases e:x=h
  ·subst e;rw[W.contains_self,W'.contains_self]
  rw[W.contains_root hx,W'.contains_root (by rw[C.parent,if_neg e];exact hx)]
 have hne:x≠h:=fun e=>by subst e;rw[C.root]at hx;cases hx
 rw[W.contains_step hx,W'.contains_step (by rw[C.parent,if_neg hne];exact hx),ih]
theorem ge_{m m':aa_}{h p:Nat}(hcm:∀x,contains m' h x=contains m h x)(q:Nat×Nat):bi_ m' (bm_ m h p) q=gf_ m h p ((nd m p).kids.idxOf h) q:=by
 unfold bi_ gf_ bm_;dsimp only
 by_cases c1:contains m h q.1=true
 ·rw[if_pos c1,if_pos ⟨rfl,h,rfl,by rw[hcm];exact c1⟩]
 rw[if_neg c1,if_neg (by rintro⟨_,x,hx,hc⟩;injection hx with hx;subst hx;rw[hcm]at hc;exact c1 hc)]
 by_cases c2:q.1=p/\(nd m p).kids.idxOf h<q.2
 ·rw[if_pos c2,if_neg (fun h3=>h3.elim (fun h4=>h4 c2.1) (fun h4=>by omega)),if_neg (by decide),if_pos rfl,c2.1]
 rw[if_neg c2,if_pos]
 by_cases e:q.1=p
 ·exact Or.inr (by have:¬(nd m p).kids.idxOf h<q.2:=fun h4=>c2 ⟨e,h4⟩;omega)
 exact Or.inl e
theorem mQ_{m m':aa_}{p h i:Nat}(q:Nat×Nat):bi_ m' (cY_ m p h i) q=eu_ p i q:=by
 unfold bi_ eu_ cY_;dsimp only;rw[if_neg (by rintro⟨h3,_⟩;cases h3)]
 by_cases c2:q.1=p/\i<q.2
 ·rw[if_pos c2,if_neg (fun h3=>h3.elim (fun h4=>h4 c2.1) (fun h4=>by omega)),if_pos rfl,c2.1]
 rw[if_neg c2,if_pos]
 by_cases e:q.1=p
 ·exact Or.inr (by have:¬i<q.2:=fun h4=>c2 ⟨e,h4⟩;omega)
 exact Or.inl e
theorem mu_{m:aa_}(W:WF m){p h:Nat}{b:Option Nat}(hl:h<m.length)(hpl:p<m.length)(hg:(nd m h).gone=(nd m p).gone){x y:Nat×Nat}(hx:ef_ m x)(hy:ef_ m y)(ht:top m x.1=top m y.1)(hle:lcmp m x y<=0) :
  let r:=insert m p h b
  let go:=fun q=>r.1.foldl (fun q rec=>bi_ r.2.2 rec q) q
  WF r.2.2/\ef_ r.2.2 (go x)/\ef_ r.2.2 (go y)/\top r.2.2 (go x).1=top r.2.2 (go y).1/\lcmp r.2.2 (go x) (go y)<=0:=by
 intro r go
 by_cases hok:(insert m p h b).2.1=0
 ·obtain⟨C,he⟩:=g5_ W hl hpl hg hok
  have hr:r=(a6_ m h++[cY_ (out m h) p h (placeOf (out m h) p (aA_ m h b))],0,put (out m h) p h (placeOf (out m h) p (aA_ m h b))):=he;have hgo:∀q,go q=eu_ p (placeOf (out m h) p (aA_ m h b)) ((a6_ m h).foldl (fun q rec=>bi_ r.2.2 rec q) q):=fun q=>by
   show r.1.foldl _ q=_;rw[hr];dsimp only;rw[List.foldl_append,List.foldl_cons,List.foldl_nil,mQ_]
  have hm:r.2.2=put (out m h) p h (placeOf (out m h) p (aA_ m h b)):=by rw[hr]
  have key:∃x' y',(∀q,q=x\/q=y->True)/\(a6_ m h).foldl (fun q rec=>bi_ r.2.2 rec q) x=x'/\(a6_ m h).foldl (fun q rec=>bi_ r.2.2 rec q) y=y'/\ef_ (out m h) x'/\ef_ (out m h) y'/\top (out m h) x'.1=top (out m h) y'.1/\lcmp (out m h) x' y'<=0:=by
   refine⟨_,_,fun _ _=>trivial,rfl,rfl,?_⟩;have hco:∀z,contains r.2.2 h z=contains (out m h) h z:=fun z=>by rw[hm];exact fj_ C z
   unfold a6_;unfold out at hco ⊢
   cases hq:(nd m h).parent with
   |none=>exact⟨hx,hy,ht,hle⟩
   |some q=>
    rw[hq]at hco;dsimp only at hco ⊢;have hcc:∀z,contains r.2.2 h z=contains m h z:=fun z=>by rw[hco,de_ W hq]
    rw[List.foldl_cons,List.foldl_nil,List.foldl_cons,List.foldl_nil,ge_ hcc,ge_ hcc];exact o8_ W hq hx hy ht hle
  obtain⟨x',y',_,e1,e2,k1,k2,k3,k4⟩:=key;rw[hgo,hgo,e1,e2,hm];exact⟨C.wf',put_le C k1 k2 k3 k4⟩
 have hr:r.1=[]/\r.2.2=m:=by
  show(insert m p h b).1=[]/\(insert m p h b).2.2=m;unfold insert at hok ⊢
  split
  ·exact⟨rfl,rfl⟩
  split
  ·exact⟨rfl,rfl⟩
  rename_i c1 c2
  rw[if_neg c1,if_neg c2]at hok;exact absurd rfl hok
 have hgo:∀q,go q=q:=fun q=>by show r.1.foldl _ q=q;rw[hr.1];rfl
 rw[hgo,hgo,hr.2];exact⟨W,hx,hy,ht,hle⟩
end G
end
section
open Go.RowKit
namespace U
def oZ_:Nat->List UInt8->List (List UInt8)
 |0,_=>[]
 |n+1,l=>if l=[] then[]else l.take (adv l) :: oZ_ n (l.drop (adv l))
def raw(l:List UInt8):List (List UInt8):=oZ_ l.length l
theorem hX_:∀(n m:Nat) (l:List UInt8),l.length<=n->l.length<=m->oZ_ n l=oZ_ m l
 |0,0,_,_,_=>rfl
 |0,m+1,l,h,_=>by
  have:l=[]:=List.eq_nil_of_length_eq_zero (by omega);simp[oZ_,this]
 |n+1,0,l,_,h=>by
  have:l=[]:=List.eq_nil_of_length_eq_zero (by omega);simp[oZ_,this]
 |n+1,m+1,l,h1,h2=>by
  unfold oZ_
  by_cases hl:l=[]
  ·simp[hl]
  have ha:=cs_ l;have hlen:0<l.length:=List.length_pos_iff.2 hl;rw[if_neg hl,if_neg hl,hX_ n m (l.drop (adv l)) (by simp;omega) (by simp;omega)]
theorem raw_nil:raw []=[]:=rfl
theorem jM_(l:List UInt8)(h:l≠[]):raw l=l.take (adv l) :: raw (l.drop (adv l)):=by
 have hl:0<l.length:=List.length_pos_iff.2 h;have ha:=cs_ l;unfold raw;obtain⟨n,hn⟩:∃n,l.length=n+1:=⟨l.length-1,by omega⟩;rw[hn]
 conv=>lhs;unfold oZ_
 rw[if_neg h,hX_ n (l.drop (adv l)).length (l.drop (adv l)) (by simp;omega) (by simp)]
theorem lZ_:∀(n:Nat) (l:List UInt8),l.length<=n->raw (rep l)=pts l
 |0,l,h=>by
  have:l=[]:=List.eq_nil_of_length_eq_zero (by omega);subst this;rfl
 |n+1,l,h=>by
  by_cases hl:l=[]
  ·subst hl;rfl
  have ha:=cs_ l;rw[c7_ l hl,jM_ _ (dN_ l _ hl),e1_ l _ hl,d1_ l hl];rw[List.take_left,List.drop_left,lZ_ n _ (by simp;omega)]
theorem kz_(l:List UInt8):raw (rep l)=pts l:=lZ_ l.length l (nl_)
theorem eZ_:∀(n:Nat) (l:List UInt8),(chunks n l).length<=n
 |0,_=>by simp[chunks]
 |n+1,l=>by
  unfold chunks
  split
  ·simp
  have:=eZ_ n (l.drop (adv l));simp;omega
theorem cS_(l:List UInt8):(pts l).length<=l.length:=eZ_ _ _
theorem gV_:∀(n:Nat) (l:List UInt8),l.length<=n->(rep l).length<=3*l.length
 |0,l,h=>by
  have:l=[]:=List.eq_nil_of_length_eq_zero (by omega);subst this;simp[dM_]
 |n+1,l,h=>by
  by_cases hl:l=[]
  ·subst hl;simp[dM_]
  have ha:=cs_ l;have hle:=hf_ l hl;have ih:=gV_ n (l.drop (adv l)) (by simp;omega);rw[c7_ l hl,List.length_append];rw[List.length_drop]at ih;have hc:(a7_ l).length<=3*adv l:=by
   unfold a7_ adv
   split
   ·simp
   rename_i h0;simp;omega
  omega
theorem gW_(l:List UInt8):(rep l).length<=3*l.length:=gV_ l.length l (nl_)
end U
namespace T
theorem kT_:(Tryz.prog.info? 9).map (fun i=>(i.zero,i.size,i.bytes))=some (some (.string ByteArray.empty),1,16):=by kernel_rfl
def strs(l:List (List UInt8)):List Value:=l.map fun c=>.string ⟨c.toArray⟩
theorem strs_length(l:List (List UInt8)):(strs l).length=l.length:=by simp[strs]
theorem lF_(l:List (List UInt8))(c:List UInt8):strs (l++[c])=strs l++[.string ⟨c.toArray⟩]:=by simp[strs]
theorem extract_eq(s:ByteArray)(k n:Nat)(h:k+n<=s.size):s.extract k (k+n)=⟨((s.data.toList.drop k).take n).toArray⟩:=by
 have:=dS_ s k n h
 cases h2:s.extract k (k+n) with
 |mk a=>rw[h2]at this;simp at this;rw[<-this]
def PtsRel(s:ByteArray)(w:World)(v i:Value)(wr:World):Prop:=
 ∃(k:Nat) (acc:List (List UInt8)),k<=s.size/\i=.int .i64 k/\wr.ownsRow w.heap.size 9 1 v acc.length (strs acc)/\Below w.heap.size w wr/\Hd (acc++U.raw (s.data.toList.drop k)=U.raw s.data.toList)/\acc.length<=k
theorem refPoints(s:ByteArray)(w:World)(hs:s.size<=1000000) :
  Calls Tryz.prog 57 #[.string s] w fun e w'=>∃v,e=.returned v/\w'.ownsRow w.heap.size 9 1 v (U.raw s.data.toList).length (strs (U.raw s.data.toList))/\Below w.heap.size w w':=by
 obtain⟨i0,hi,hz0,hz1,hz2⟩:=info_parts kT_
 go_enter Tryz.func57,Tryz.ntmps57
 go_wp2_with fail
 go_loopw [3,4] (fun v i wr=>PtsRel s w v i wr) (fun _ i _=>s.size-(Go.RowKit.intOf i).toNat)
 case atStart=>exact⟨0,[],Nat.zero_le _,rfl,World.ownsRow_nil _ _ _ _,br_,hi_ rfl,Nat.zero_le _⟩
 obtain⟨k,acc,hk,rfl,hown,hB,HA,hal⟩:=hrel;have hbs:=hB.size
 by_cases hlt:k<s.size
 ·have hne:s.data.toList.drop k≠[]:=by rw[eX_ s k hlt];exact List.cons_ne_nil _ _
  have HN:=hi_ (U.jM_ _ hne);have hle:=U.hf_ _ hne;have hpos:=U.cs_ (s.data.toList.drop k);rw[List.length_drop,U.dw_]at hle;clear hne;have hc:∀W,Calls Tryz.prog 105 #[.string s,.int .i64 k] W fun e w'=>e=.returned (.int .i64 (U.sz (s.data.toList.drop k)))/\W=w':=fun W=>by
   have:=i1_ s (k:Int) W (by omega) (by omega) (by omega);rw[Int.toNat_natCast]at this;exact this
  have hadv:=U.adv.eq_1 (s.data.toList.drop k);generalize U.sz (s.data.toList.drop k)=z at *;generalize hm:U.adv (s.data.toList.drop k)=m at *;have HM:=hi_ hm;have HC:=hi_ hc;have HV:=hi_ hadv;clear hc hm hadv;have hkm:k+m<=s.size:=by omega
  have hkm':(k:Int)+(m:Int)<=(s.size:Int):=by omega
  have hmx:max (z:Int) 1=(m:Int):=by rw[HV.o];split<;>omega
  have HX:=hi_ (extract_eq s k m hkm);go_wp2_with (first|(go_at_call 105;refine(HC.o _).mono ?_;rintro e w' ⟨rfl,rfl⟩)|(at_builtin;refine wpList_append_own _ rfl _ _ 138 rfl w.heap.size 9 i0 (.string ByteArray.empty) 1 16 Tryz.underlying138 hi hz0 hz1 hz2 rfl (by decide) _ _ _ rfl (hown.alloc _) ⟨wr.heap.size,0,none⟩ 1 1 [.string (s.extract k (k+m))] rfl rfl ?c1 ?c2 ?c3 ?c4 ?c5 ?_))
  case c1=>exact cell_one_new _ _ _
  case c2=>intro u hu;simp at hu;subst hu;rfl
  case c3=>unfold maxLen;omega
  case c4=>omega
  case c5=>simp;omega
  intro v' w2 hown' hgrow _;have hB2:=(hB.alloc hbs (.cells #[.string (s.extract k (k+m))] 9)).grown hgrow (by simp;omega) (fun q hq=>(hown.lt q hq).1);rw[HX.o]at hown';go_wp2_with fail
  go_roundw
  case rel=>
   refine⟨k+m,acc++[(s.data.toList.drop k).take m],by omega,by go_num,?_,hB2,hi_ ?_,by simp;omega⟩
   ·rw[lF_];simpa using hown'
   have h3:=HA.o;rw[HN.o,List.drop_drop]at h3;rw[<-h3];simp
  simp[Go.RowKit.intOf];omega
 have h3:=HA.o;rw[eW_ s k hlt,U.raw_nil,List.append_nil]at h3;rw[h3]at hown;have HO:=hi_ hown;clear h3 hown;go_wp2_with fail
 go_ret
 exact⟨_,rfl,HO.o,hB⟩
end T
end
end Go.Proofs.YtinphfpdfodkkaaGreatDoor
