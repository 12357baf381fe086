/- Texts of the proof. -/
import Derived.Test.YtinphfpdfodkkaaGreatDoorM00
import Derived.Test.YtinphfpdfodkkaaGreatDoorMS
import Derived.WalkKit
import Derived.Lib.RuneBytes
import Derived.Lib.RuneCount
import Derived.BigCall
import Derived.Shelf.Strings.BuilderK
import Derived.Lib.Hide
import Derived.Laws.IdiomStrings
import Derived.BigQuiet
import Derived.Deep.QuietTactic
import Derived.Laws.BitsLemmas
import Derived.Below
import Derived.OneCell
import Derived.Deep.AppendLies
import Derived.Laws.IdiomCopy
import Derived.Lib.AppendStr
import Derived.Lib.BufferRead
import Derived.Maps.AppendAt
import Derived.WalkSpells
set_option linter.unusedVariables false
set_option linter.unusedSimpArgs false
set_option maxHeartbeats 8000000
set_option maxRecDepth 100000
namespace Go.Proofs.YtinphfpdfodkkaaGreatDoor
section
namespace U
def rng(l:List UInt8)(i lo hi:Nat):Bool:=decide (i<l.length/\lo<=(l.getD i 0).toNat/\(l.getD i 0).toNat<=hi)
def second(l:List UInt8):Bool:=
 if (l.getD 0 0).toNat=224 then rng l 1 160 191
 else if (l.getD 0 0).toNat=237 then rng l 1 128 159
 else if (l.getD 0 0).toNat=240 then rng l 1 144 191
 else if (l.getD 0 0).toNat=244 then rng l 1 128 143
 else rng l 1 128 191
def sz(l:List UInt8):Nat:=
 if rng l 0 0 127 then 1
 else if rng l 0 194 223 && rng l 1 128 191 then 2
 else if rng l 0 224 239 && (second l && rng l 2 128 191)then 3
 else if rng l 0 240 244 && (second l && (rng l 2 128 191 && rng l 3 128 191))then 4
 else 0
theorem sz_le4(l:List UInt8):sz l<=4:=by
 unfold sz
 repeat' split
 all_goals omega
theorem sz_le(l:List UInt8):sz l<=l.length:=by
 unfold sz
 repeat' split
 all_goals simp_all [rng]
 all_goals omega
def adv(l:List UInt8):Nat:=if sz l=0 then 1 else sz l
def chunk(l:List UInt8):List UInt8:=if sz l=0 then[239,191,189]else l.take (sz l)
theorem adv_pos(l:List UInt8):1<=adv l:=by unfold adv;split<;>omega
theorem adv_le(l:List UInt8)(h:l≠[]):adv l<=l.length:=by
 have:=sz_le l;have:0<l.length:=List.length_pos_iff.2 h;unfold adv
 split<;>omega
def chunks:Nat->List UInt8->List (List UInt8)
 |0,_=>[]
 |n+1,l=>if l=[] then[]else chunk l :: chunks n (l.drop (adv l))
def pts(l:List UInt8):List (List UInt8):=chunks l.length l
def rep(l:List UInt8):List UInt8:=(pts l).flatten
theorem chunks_more:∀(n m:Nat) (l:List UInt8),l.length<=n->l.length<=m->chunks n l=chunks m l
 |0,0,_,_,_=>rfl
 |0,m+1,l,h,_=>by
  have:l=[]:=List.eq_nil_of_length_eq_zero (by omega);simp[chunks,this]
 |n+1,0,l,_,h=>by
  have:l=[]:=List.eq_nil_of_length_eq_zero (by omega);simp[chunks,this]
 |n+1,m+1,l,h1,h2=>by
  unfold chunks
  by_cases hl:l=[]
  ·simp[hl]
  ·have ha:=adv_pos l
   have hlen:0<l.length:=List.length_pos_iff.2 hl;rw[if_neg hl,if_neg hl,chunks_more n m (l.drop (adv l)) (by simp;omega) (by simp;omega)]
theorem pts_nil:pts []=[]:=rfl
theorem pts_cons(l:List UInt8)(h:l≠[]):pts l=chunk l :: pts (l.drop (adv l)):=by
 have hl:0<l.length:=List.length_pos_iff.2 h;have ha:=adv_pos l;unfold pts;obtain⟨n,hn⟩:∃n,l.length=n+1:=⟨l.length-1,by omega⟩;rw[hn]
 conv=>lhs;unfold chunks
 rw[if_neg h,chunks_more n (l.drop (adv l)).length (l.drop (adv l)) (by simp;omega) (by simp)]
theorem rep_nil:rep []=[]:=rfl
theorem rep_cons(l:List UInt8)(h:l≠[]):rep l=chunk l++rep (l.drop (adv l)):=by
 unfold rep;rw[pts_cons l h];rfl
theorem getD_congr{n i:Nat}{l l':List UInt8}(hi:i<n)(h:l'.take n=l.take n):l'.getD i 0=l.getD i 0:=by
 have h1:(l'.take n)[i]?=(l.take n)[i]?:=by rw[h]
 rw[List.getElem?_take_of_lt hi,List.getElem?_take_of_lt hi]at h1;simp[List.getD,h1]
theorem rng_congr{n i:Nat}{l l':List UInt8}(hi:i<n)(h:l'.take n=l.take n)(hn:n<=l.length)(hn':n<=l'.length)(lo hi':Nat):rng l' i lo hi'=rng l i lo hi':=by
 unfold rng;rw[getD_congr hi h];have a:i<l.length:=by omega
 have b:i<l'.length:=by omega
 simp[a,b]
theorem second_congr{n:Nat}{l l':List UInt8}(hi:1<n)(h:l'.take n=l.take n)(hn:n<=l.length)(hn':n<=l'.length):second l'=second l:=by
 unfold second;rw[getD_congr (by omega:0<n) h];simp only[rng_congr hi h hn hn']
theorem sz_congr(l l':List UInt8)(h:sz l≠0)(ht:l'.take (sz l)=l.take (sz l))(hl:sz l<=l'.length):sz l'=sz l:=by
 have hle:=sz_le l;generalize hn:sz l=n at *;have h0:0<n:=by omega
 have r0:=fun lo hi=>rng_congr h0 ht hle hl lo hi;unfold sz at hn ⊢
 split at hn
 ·subst hn;rename_i a;rw[r0,if_pos a]
 ·rename_i a0
  split at hn
  ·subst hn;rename_i a
   rw[r0,if_neg a0,r0,rng_congr (by omega:1<2) ht hle hl,if_pos a]
  ·rename_i a1
   split at hn
   ·subst hn;rename_i a
    rw[r0,if_neg a0,r0,rng_congr (by omega:1<3) ht hle hl,if_neg a1,r0,second_congr (by omega:1<3) ht hle hl,rng_congr (by omega:2<3) ht hle hl,if_pos a]
   ·rename_i a2
    split at hn
    ·subst hn;rename_i a
     rw[r0,if_neg a0,r0,rng_congr (by omega:1<4) ht hle hl,if_neg a1,r0,second_congr (by omega:1<4) ht hle hl,rng_congr (by omega:2<4) ht hle hl,if_neg a2,r0,rng_congr (by omega:3<4) ht hle hl,if_pos a]
    ·omega
theorem sz_take_append(l r:List UInt8)(h:sz l≠0):sz (l.take (sz l)++r)=sz l:=by
 have hle:=sz_le l;exact sz_congr l (l.take (sz l)++r) h (by rw[List.take_append_of_le_length (by rw[List.length_take];omega),List.take_take,Nat.min_self]) (by rw[List.length_append,List.length_take];omega)
theorem sz_fffd(r:List UInt8):sz (239 :: 191 :: 189 :: r)=3:=by simp[sz,rng,second]
theorem chunk_length(l:List UInt8)(_h:l≠[]):1<=(chunk l).length/\(chunk l).length<=4:=by
 have:=sz_le l;have:=sz_le4 l;unfold chunk
 split
 ·simp
 ·simp;omega
theorem sz_chunk(l r:List UInt8)(_h:l≠[]):sz (chunk l++r)=(chunk l).length:=by
 have hle:=sz_le l;unfold chunk
 split
 ·simp[sz_fffd]
 ·rename_i h0
  rw[sz_take_append l r h0];simp;omega
theorem adv_chunk(l r:List UInt8)(h:l≠[]):adv (chunk l++r)=(chunk l).length:=by
 have:=(chunk_length l h).1;unfold adv;rw[sz_chunk l r h,if_neg (by omega)]
theorem chunk_chunk(l r:List UInt8)(h:l≠[]):chunk (chunk l++r)=chunk l:=by
 have:=(chunk_length l h).1;generalize hc:chunk l=c at *;have e:=sz_chunk l r h;rw[hc]at e;unfold chunk;rw[e,if_neg (by omega)];simp
theorem ne_nil_chunk(l r:List UInt8)(h:l≠[]):chunk l++r≠[]:=by
 have:=(chunk_length l h).1;intro e;have e':=congrArg List.length e;rw[List.length_append,List.length_nil]at e';omega
theorem pts_rep:∀(n:Nat) (l r:List UInt8),l.length<=n->pts (rep l++r)=pts l++pts r
 |0,l,r,h=>by
  have:l=[]:=List.eq_nil_of_length_eq_zero (by omega);subst this;simp[rep_nil,pts_nil]
 |n+1,l,r,h=>by
  by_cases hl:l=[]
  ·subst hl;simp[rep_nil,pts_nil]
  ·have ha:=adv_pos l
   rw[rep_cons l hl,List.append_assoc,pts_cons _ (ne_nil_chunk l _ hl),chunk_chunk l _ hl,adv_chunk l _ hl,pts_cons l hl];rw[List.drop_left,pts_rep n _ _ (by simp;omega)];rfl
theorem pts_of_rep(l:List UInt8):pts (rep l)=pts l:=by
 have:=pts_rep l.length l [] (Nat.le_refl _);simpa[pts_nil]using this
theorem rep_rep(l:List UInt8):rep (rep l)=rep l:=by
 show(pts (rep l)).flatten=(pts l).flatten;rw[pts_of_rep]
def code(c:List UInt8):Nat:=
 match c with
 |[a]=>a.toNat
 |[a,b]=>(a.toNat % 32)*64+b.toNat % 64
 |[a,b,c]=>(a.toNat % 16)*4096+(b.toNat % 64)*64+c.toNat % 64
 |[a,b,c,d]=>(a.toNat % 8)*262144+(b.toNat % 64)*4096+(c.toNat % 64)*64+d.toNat % 64
 |_=>0
theorem get_eq(s:ByteArray)(i:Nat):s.get! i=s.data.toList.getD i 0:=by
 cases s with
 |mk a=>
  simp only[ByteArray.get!,List.getD,Array.getElem?_toList];rw[getElem!_def]
  cases a[i]?<;>rfl
theorem getD_drop(l:List UInt8)(i k:Nat):(l.drop i).getD k 0=l.getD (i+k) 0:=by
 simp[List.getD]
theorem list_size(s:ByteArray):s.data.toList.length=s.size:=by simp
theorem head_take(l:List UInt8)(n:Nat)(h:n<=l.length):l.take n=(List.range n).map fun i=>l.getD i 0:=by
 apply List.ext_getElem?;intro i
 by_cases hi:i<n
 ·rw[List.getElem?_take_of_lt hi]
  have:i<l.length:=by omega
  simp[hi,List.getD,this]
 ·rw[List.getElem?_eq_none (by rw[List.length_take];omega)]
  simp[hi]
theorem code_take(l:List UInt8)(h:sz l≠0):code (l.take (sz l)) =
  if sz l=1 then(l.getD 0 0).toNat
  else if sz l=2 then((l.getD 0 0).toNat % 32)*64+(l.getD 1 0).toNat % 64
  else if sz l=3 then((l.getD 0 0).toNat % 16)*4096+((l.getD 1 0).toNat % 64)*64+(l.getD 2 0).toNat % 64
  else((l.getD 0 0).toNat % 8)*262144+((l.getD 1 0).toNat % 64)*4096+((l.getD 2 0).toNat % 64)*64+(l.getD 3 0).toNat % 64:=by
 have hle:=sz_le l;have h4:=sz_le4 l;rw[head_take l _ hle];generalize sz l=n at *;have:n=1\/n=2\/n=3\/n=4:=by omega
 rcases this with rfl|rfl|rfl|rfl<;>simp[code,List.range,List.range.loop]
theorem code_chunk(l:List UInt8):code (chunk l)=if sz l=0 then 65533 else code (l.take (sz l)):=by
 unfold chunk
 split<;>rfl
theorem rng_iff(l:List UInt8)(i lo hi:Nat):rng l i lo hi=true↔(i<l.length/\lo<=(l.getD i 0).toNat/\(l.getD i 0).toNat<=hi):=by
 simp[rng]
theorem second_iff(l:List UInt8):second l=true↔(1<l.length ∧
  (((l.getD 0 0).toNat=224/\160<=(l.getD 1 0).toNat/\(l.getD 1 0).toNat<=191)\/((l.getD 0 0).toNat=237/\128<=(l.getD 1 0).toNat/\(l.getD 1 0).toNat<=159) ∨
   ((l.getD 0 0).toNat=240/\144<=(l.getD 1 0).toNat/\(l.getD 1 0).toNat<=191)\/((l.getD 0 0).toNat=244/\128<=(l.getD 1 0).toNat/\(l.getD 1 0).toNat<=143) ∨
   ((l.getD 0 0).toNat≠224/\(l.getD 0 0).toNat≠237/\(l.getD 0 0).toNat≠240/\(l.getD 0 0).toNat≠244/\128<=(l.getD 1 0).toNat/\(l.getD 1 0).toNat<=191))):=by
 unfold second
 by_cases h1:(l.getD 0 0).toNat=224
 ·simp only[if_pos h1,rng_iff];omega
 ·by_cases h2:(l.getD 0 0).toNat=237
  ·simp only[if_neg h1,if_pos h2,rng_iff];omega
  ·by_cases h3:(l.getD 0 0).toNat=240
   ·simp only[if_neg h1,if_neg h2,if_pos h3,rng_iff];omega
   ·by_cases h4:(l.getD 0 0).toNat=244
    ·simp only[if_neg h1,if_neg h2,if_neg h3,if_pos h4,rng_iff];omega
    ·simp only[if_neg h1,if_neg h2,if_neg h3,if_neg h4,rng_iff];omega
def one(n x0:Nat):Prop:=0<n/\x0<=127
def two(n x0 x1:Nat):Prop:=1<n/\194<=x0/\x0<=223/\128<=x1/\x1<=191
def sec(x0 x1:Nat):Prop:=(x0=224/\160<=x1/\x1<=191)\/(x0=237/\128<=x1/\x1<=159)\/(x0=240/\144<=x1/\x1<=191)\/(x0=244/\128<=x1/\x1<=143)\/(x0≠224/\x0≠237/\x0≠240/\x0≠244/\128<=x1/\x1<=191)
def three(n x0 x1 x2:Nat):Prop:=2<n/\224<=x0/\x0<=239/\sec x0 x1/\128<=x2/\x2<=191
def four(n x0 x1 x2 x3:Nat):Prop:=3<n/\240<=x0/\x0<=244/\sec x0 x1/\128<=x2/\x2<=191/\128<=x3/\x3<=191
theorem sz_cases(l:List UInt8) :
  (sz l=1/\one l.length (l.getD 0 0).toNat)\/(sz l=2/\two l.length (l.getD 0 0).toNat (l.getD 1 0).toNat) ∨
  (sz l=3/\three l.length (l.getD 0 0).toNat (l.getD 1 0).toNat (l.getD 2 0).toNat)\/(sz l=4/\four l.length (l.getD 0 0).toNat (l.getD 1 0).toNat (l.getD 2 0).toNat (l.getD 3 0).toNat) ∨
  (sz l=0/\¬one l.length (l.getD 0 0).toNat/\¬two l.length (l.getD 0 0).toNat (l.getD 1 0).toNat/\¬three l.length (l.getD 0 0).toNat (l.getD 1 0).toNat (l.getD 2 0).toNat/\¬four l.length (l.getD 0 0).toNat (l.getD 1 0).toNat (l.getD 2 0).toNat (l.getD 3 0).toNat):=by
 have e:=sz.eq_1 l
 by_cases c1:rng l 0 0 127=true
 ·rw[if_pos c1]at e
  rw[rng_iff]at c1;exact Or.inl ⟨e,c1.1,c1.2.2⟩
 ·rw[if_neg c1]at e
  by_cases c2:(rng l 0 194 223 && rng l 1 128 191)=true
  ·rw[if_pos c2]at e
   rw[Bool.and_eq_true,rng_iff,rng_iff]at c2;exact Or.inr (Or.inl ⟨e,c2.2.1,c2.1.2.1,c2.1.2.2,c2.2.2⟩)
  ·rw[if_neg c2]at e
   by_cases c3:(rng l 0 224 239 && (second l && rng l 2 128 191))=true
   ·rw[if_pos c3]at e
    rw[Bool.and_eq_true,Bool.and_eq_true,rng_iff,rng_iff,second_iff]at c3;exact Or.inr (Or.inr (Or.inl ⟨e,c3.2.2.1,c3.1.2.1,c3.1.2.2,c3.2.1.2,c3.2.2.2⟩))
   ·rw[if_neg c3]at e
    by_cases c4:(rng l 0 240 244 && (second l && (rng l 2 128 191 && rng l 3 128 191)))=true
    ·rw[if_pos c4]at e
     rw[Bool.and_eq_true,Bool.and_eq_true,Bool.and_eq_true,rng_iff,rng_iff,rng_iff,second_iff]at c4;exact Or.inr (Or.inr (Or.inr (Or.inl ⟨e,c4.2.2.2.1,c4.1.2.1,c4.1.2.2,c4.2.1.2,c4.2.2.1.2.1,c4.2.2.1.2.2,c4.2.2.2.2⟩)))
    ·rw[if_neg c4]at e
     rw[rng_iff]at c1;rw[Bool.and_eq_true,rng_iff,rng_iff]at c2;rw[Bool.and_eq_true,Bool.and_eq_true,rng_iff,rng_iff,second_iff]at c3;rw[Bool.and_eq_true,Bool.and_eq_true,Bool.and_eq_true,rng_iff,rng_iff,rng_iff,second_iff]at c4;refine Or.inr (Or.inr (Or.inr (Or.inr ⟨e,fun h=>c1 ⟨h.1,Nat.zero_le _,h.2⟩,fun h=>c2 ⟨⟨by have:=h.1;omega,h.2.1,h.2.2.1⟩,h.1,h.2.2.2⟩,fun h=>c3 ⟨⟨by have:=h.1;omega,h.2.1,h.2.2.1⟩,⟨by have:=h.1;omega,h.2.2.2.1⟩,h.1,h.2.2.2.2⟩,fun h=>c4 ⟨⟨by have:=h.1;omega,h.2.1,h.2.2.1⟩,⟨by have:=h.1;omega,h.2.2.2.1⟩,⟨by have:=h.1;omega,h.2.2.2.2.1,h.2.2.2.2.2.1⟩,h.1,h.2.2.2.2.2.2⟩⟩)))
def dec(n x0 x1 x2 x3:Nat):Nat×Nat:=
 if x0<0x80 then(x0,1)
 else if x0 / 32==6 && (decide (1<n) && x1 / 64==2) then
  if (x0 % 32)*64+x1 % 64 ≥ 0x80 then((x0 % 32)*64+x1 % 64,2) else(65533,1)
 else if x0 / 16==14 && (decide (1<n) && x1 / 64==2) && (decide (2<n) && x2 / 64==2) then
  if decide ((x0 % 16)*4096+(x1 % 64)*64+x2 % 64 ≥ 0x800) && Utf8.valid ((x0 % 16)*4096+(x1 % 64)*64+x2 % 64:Nat) then((x0 % 16)*4096+(x1 % 64)*64+x2 % 64,3) else(65533,1)
 else if x0 / 8==30 && (decide (1<n) && x1 / 64==2) && (decide (2<n) && x2 / 64==2) && (decide (3<n) && x3 / 64==2) then
  if decide ((x0 % 8)*262144+(x1 % 64)*4096+(x2 % 64)*64+x3 % 64 ≥ 0x10000) && Utf8.valid ((x0 % 8)*262144+(x1 % 64)*4096+(x2 % 64)*64+x3 % 64:Nat) then((x0 % 8)*262144+(x1 % 64)*4096+(x2 % 64)*64+x3 % 64,4) else(65533,1)
 else(65533,1)
theorem dec_one{n x0 x1 x2 x3:Nat}(h:one n x0):dec n x0 x1 x2 x3=(x0,1):=by
 unfold one at h;unfold dec;rw[if_pos (by omega)]
theorem dec_two{n x0 x1 x2 x3:Nat}(h:two n x0 x1):dec n x0 x1 x2 x3=((x0 % 32)*64+x1 % 64,2):=by
 unfold two at h;unfold dec;rw[if_neg (by omega),if_pos (by simp;omega),if_pos (by omega)]
theorem dec_three{n x0 x1 x2 x3:Nat}(h:three n x0 x1 x2):dec n x0 x1 x2 x3=((x0 % 16)*4096+(x1 % 64)*64+x2 % 64,3):=by
 unfold three sec at h;unfold dec;rw[if_neg (by omega),if_neg (by simp;omega),if_pos (by simp;omega),if_pos];simp[Utf8.valid];omega
theorem dec_four{n x0 x1 x2 x3:Nat}(h:four n x0 x1 x2 x3):dec n x0 x1 x2 x3=((x0 % 8)*262144+(x1 % 64)*4096+(x2 % 64)*64+x3 % 64,4):=by
 unfold four sec at h;unfold dec;rw[if_neg (by omega),if_neg (by simp;omega),if_neg (by simp;omega),if_pos (by simp;omega),if_pos];simp[Utf8.valid];omega
theorem dec_none{n x0 x1 x2 x3:Nat}(hn:0<n)(b0:x0<256)(b1:x1<256)(b2:x2<256)(b3:x3<256)(h1:¬one n x0)(h2:¬two n x0 x1)(h3:¬three n x0 x1 x2)(h4:¬four n x0 x1 x2 x3):dec n x0 x1 x2 x3=(65533,1):=by
 unfold one at h1;unfold two at h2;unfold three sec at h3;unfold four sec at h4;unfold dec;rw[if_neg (by omega)]
 split
 ·rename_i c
  simp at c;rw[if_neg (by omega)]
 ·split
  ·rename_i c
   simp at c;rw[if_neg];simp[Utf8.valid];omega
  ·split
   ·rename_i c
    simp at c;rw[if_neg];simp[Utf8.valid];omega
   ·rfl
theorem decode_dec(s:ByteArray)(i:Nat)(h:i<s.size):Utf8.decode s i=dec (s.size-i) (s.data.toList.getD (i+0) 0).toNat (s.data.toList.getD (i+1) 0).toNat (s.data.toList.getD (i+2) 0).toNat (s.data.toList.getD (i+3) 0).toNat:=by
 unfold Utf8.decode dec;simp only[get_eq,Utf8.runeError];have e1:decide (1<s.size-i)=decide (i+1<s.size):=by rw[decide_eq_decide];omega
 have e2:decide (2<s.size-i)=decide (i+2<s.size):=by rw[decide_eq_decide];omega
 have e3:decide (3<s.size-i)=decide (i+3<s.size):=by rw[decide_eq_decide];omega
 rw[e1,e2,e3]
theorem decode_eq(s:ByteArray)(i:Nat)(h:i<s.size):Utf8.decode s i=(code (chunk (s.data.toList.drop i)),adv (s.data.toList.drop i)):=by
 have hl:(s.data.toList.drop i).length=s.size-i:=by simp
 have hc:=sz_cases (s.data.toList.drop i);rw[hl]at hc;simp only[getD_drop]at hc;rw[decode_dec s i h,code_chunk];have ct:=code_take (s.data.toList.drop i);simp only[getD_drop]at ct;unfold adv;have b0:=(s.data.toList.getD (i+0) 0).toNat_lt;have b1:=(s.data.toList.getD (i+1) 0).toNat_lt;have b2:=(s.data.toList.getD (i+2) 0).toNat_lt;have b3:=(s.data.toList.getD (i+3) 0).toNat_lt
 rcases hc with⟨e,hc⟩|⟨e,hc⟩|⟨e,hc⟩|⟨e,hc⟩|⟨e,h1,h2,h3,h4⟩
 ·rw[dec_one hc,ct (by omega),e];rfl
 ·rw[dec_two hc,ct (by omega),e];rfl
 ·rw[dec_three hc,ct (by omega),e];rfl
 ·rw[dec_four hc,ct (by omega),e];rfl
 ·rw[dec_none (by omega) b0 b1 b2 b3 h1 h2 h3 h4,e];rfl
end U
end
section
open Go.RowKit
namespace Bld
theorem infoByte:(Tryz.prog.info? 5).map (fun i=>(i.zero,i.size,i.bytes))=some (some (.int .u8 0),1,1):=by kernel_rfl
end Bld
end
section
open Go.RowKit
namespace T
theorem drop_cons(s:ByteArray)(k:Nat)(h:k<s.size):s.data.toList.drop k=s[k] :: s.data.toList.drop (k+1):=by
 have h':k<s.data.toList.length:=by simpa using h
 rw[List.drop_eq_getElem_cons h'];rfl
theorem drop_end(s:ByteArray)(k:Nat)(h:¬k<s.size):s.data.toList.drop k=[]:=by
 apply List.drop_of_length_le;simpa using h
theorem runeCountFrom_eq(s:ByteArray):∀(fuel pos:Nat),s.size<=pos+fuel->Lib.runeCountFrom s fuel pos=(U.pts (s.data.toList.drop pos)).length
 |0,pos,h=>by
  rw[drop_end s pos (by omega)];rfl
 |f+1,pos,h=>by
  unfold Lib.runeCountFrom
  by_cases hp:pos<s.size
  ·have hne:s.data.toList.drop pos≠[]:=by rw[drop_cons s pos hp];exact List.cons_ne_nil _ _
   have ha:=U.adv_pos (s.data.toList.drop pos);rw[if_pos hp,U.decode_eq s pos hp,U.pts_cons _ hne,runeCountFrom_eq s f _ (by simp only[];omega),List.drop_drop,List.length_cons];dsimp only;omega
  ·rw[if_neg hp,drop_end s pos hp];rfl
theorem runeCount_eq(s:ByteArray):Lib.runeCount s=(U.pts s.data.toList).length:=runeCountFrom_eq s s.size 0 (by omega)
theorem Len(s:ByteArray)(w:World)(hs:s.size<=140737488351232) :
  Calls Tryz.prog 51 #[.string s] w fun e w'=>e=.returned (.int .i64 (U.pts s.data.toList).length)/\Below w.heap.size w w':=by
 rw[<-runeCount_eq]
 go_enter Tryz.func51,Tryz.ntmps51
 go_wp2_with (go_at_call 102;refine(Tryz.utf8_RuneCountInString _ _ (by omega)).mono ?_)
 rintro e w' ⟨rfl,pos,rfl⟩;go_wp2_with fail
 go_ret
 exact⟨rfl,(Below.refl _ w).alloc (Nat.le_refl _) _⟩
end T
end
section
namespace G
abbrev Bytes:=List UInt8
structure Node where
 kind:Nat
 name:Bytes
 attrs:List (Bytes×Bytes)
 data:Bytes
 parent:Option Nat
 kids:List Nat
 gone:Bool
def blank:Node:=⟨0,[],[],[],none,[],true⟩
abbrev Model:=List Node
def nd(m:Model)(i:Nat):Node:=m.getD i blank
theorem nd_in{m:Model}{i:Nat}(h:i<m.length):nd m i=m[i]:=by simp[nd,List.getD,h]
theorem nd_out{m:Model}{i:Nat}(h:m.length<=i):nd m i=blank:=by simp[nd,List.getD,h]
theorem nd_app{m l:Model}{i:Nat}(h:i<m.length):nd (m++l) i=nd m i:=by simp[nd,List.getD,List.getElem?_append_left h]
theorem nd_new{m:Model}{x:Node}:nd (m++[x]) m.length=x:=by simp[nd,List.getD]
theorem nd_app_cases{m:Model}{x:Node}(i:Nat):nd (m++[x]) i=if i=m.length then x else nd m i:=by
 split
 ·rename_i h;rw[h];exact nd_new
 ·rename_i h
  rcases Nat.lt_or_ge i m.length with h1|h1
  ·exact nd_app h1
  ·rw[nd_out h1,nd_out (by rw[List.length_append];simp;omega)]
def upd(m:Model)(i:Nat)(f:Node->Node):Model:=m.modify i f
@[simp] theorem upd_len (m:Model) (i:Nat) (f:Node->Node):(upd m i f).length=m.length:=by unfold upd;simp
theorem nd_upd{m:Model}{i:Nat}{f:Node->Node}(h:i<m.length)(j:Nat):nd (upd m i f) j=if j=i then f (nd m j)else nd m j:=by
 by_cases hj:j=i
 ·subst hj
  simp[nd,upd,List.getElem?_modify,h]
 ·have h2:¬i=j:=fun e=>hj e.symm
  simp[nd,upd,List.getElem?_modify,h2,hj]
theorem nd_upd_ne{m:Model}{i j:Nat}{f:Node->Node}(h:i<m.length)(hj:j≠i):nd (upd m i f) j=nd m j:=by rw[nd_upd h,if_neg hj]
def has(m:Model)(h:Nat):Bool:=!(nd m h).gone
theorem has_lt{m:Model}{h:Nat}(hh:has m h=true):h<m.length:=by
 rcases Nat.lt_or_ge h m.length with h1|h1
 ·exact h1
 ·unfold has at hh;rw[nd_out h1]at hh;cases hh
def up(m:Model):Nat->Nat->List Nat
 |0,_=>[]
 |n+1,h=>h :: (match (nd m h).parent with|none=>[]|some p=>up m n p)
def ends(m:Model):Nat->Nat->Prop
 |0,_=>False
 |n+1,h=>match (nd m h).parent with|none=>True|some p=>ends m n p
theorem up_root{m:Model}{n h:Nat}(hp:(nd m h).parent=none):up m (n+1) h=[h]:=by rw[up,hp]
theorem up_step{m:Model}{n h p:Nat}(hp:(nd m h).parent=some p):up m (n+1) h=h :: up m n p:=by rw[up,hp]
theorem ends_root{m:Model}{n h:Nat}(hp:(nd m h).parent=none):ends m (n+1) h:=by rw[ends,hp];trivial
theorem ends_step{m:Model}{n h p:Nat}(hp:(nd m h).parent=some p):ends m (n+1) h↔ends m n p:=by rw[ends,hp]
theorem ends_more{m:Model}:∀{n k h:Nat},ends m n h->n<=k->ends m k h
 |0,_,_,h,_=>h.elim
 |n+1,0,_,_,hk=>by omega
 |n+1,k+1,h,he,hk=>by
  cases hp:(nd m h).parent with
  |none=>exact ends_root hp
  |some p=>exact(ends_step hp).2 (ends_more ((ends_step hp).1 he) (by omega))
theorem up_more{m:Model}:∀{n k h:Nat},ends m n h->n<=k->up m k h=up m n h
 |0,_,_,h,_=>h.elim
 |n+1,0,_,_,hk=>by omega
 |n+1,k+1,h,he,hk=>by
  cases hp:(nd m h).parent with
  |none=>rw[up_root hp,up_root hp]
  |some p=>rw[up_step hp,up_step hp,up_more ((ends_step hp).1 he) (by omega)]
theorem up_len{m:Model}:∀(n h:Nat),(up m n h).length<=n
 |0,_=>by simp[up]
 |n+1,h=>by
  cases hp:(nd m h).parent with
  |none=>rw[up_root hp];simp
  |some p=>rw[up_step hp,List.length_cons];have:=up_len (m:=m) n p;omega
theorem ends_len{m:Model}:∀{n h:Nat},ends m n h->ends m (up m n h).length h
 |0,_,h=>h.elim
 |n+1,h,he=>by
  cases hp:(nd m h).parent with
  |none=>rw[up_root hp];exact ends_root hp
  |some p=>rw[up_step hp,List.length_cons];exact(ends_step hp).2 (ends_len ((ends_step hp).1 he))
structure WF(m:Model):Prop where
 doc:0<m.length/\(nd m 0).kind=1/\(nd m 0).parent=none/\(nd m 0).gone=false
 kinds:∀i,i<m.length->0<i->2<=(nd m i).kind/\(nd m i).kind<=4
 par:∀i p,(nd m i).parent=some p->p<m.length/\i∈(nd m p).kids
 kid:∀p i,i∈(nd m p).kids->i<m.length/\(nd m i).parent=some p
 nodup:∀p,(nd m p).kids.Nodup
 gone:∀i p,(nd m i).parent=some p->(nd m i).gone=(nd m p).gone
 ends:∀i,i<m.length->ends m 128 i
 leaf:∀i,3<=(nd m i).kind->(nd m i).kids=[]
def anc(m:Model)(h:Nat):List Nat:=up m 128 h
def contains(m:Model)(a b:Nat):Bool:=(anc m b).contains a
def depth(m:Model)(h:Nat):Nat:=(anc m h).length
def top(m:Model)(h:Nat):Nat:=(anc m h).getLast?.getD h
theorem WF.lt{m:Model}(W:WF m){i p:Nat}(h:(nd m i).parent=some p):i<m.length/\p<m.length:=
 ⟨(W.kid p i (W.par i p h).2).1,(W.par i p h).1⟩
theorem WF.anc_root{m:Model}(W:WF m){h:Nat}(hp:(nd m h).parent=none):anc m h=[h]:=up_root hp
theorem WF.anc_step{m:Model}(W:WF m){h p:Nat}(hp:(nd m h).parent=some p):anc m h=h :: anc m p:=by
 obtain⟨h1,h2⟩:=W.lt hp;have h3:G.ends m 127 p:=(ends_step hp).1 (W.ends h h1);unfold anc;rw[up_step hp,up_more h3 (by omega:127<=128)]
theorem WF.anc_self{m:Model}(W:WF m)(h:Nat):∃t,anc m h=h :: t:=by
 unfold anc;rw[up];exact⟨_,rfl⟩
theorem WF.depth_pos{m:Model}(W:WF m)(h:Nat):1<=depth m h:=by
 obtain⟨t,ht⟩:=W.anc_self h;unfold depth;rw[ht,List.length_cons];omega
theorem WF.depth_le{m:Model}(W:WF m)(h:Nat):depth m h<=128:=up_len 128 h
theorem WF.depth_step{m:Model}(W:WF m){h p:Nat}(hp:(nd m h).parent=some p):depth m h=depth m p+1:=by
 unfold depth;rw[W.anc_step hp,List.length_cons]
theorem WF.depth_root{m:Model}(W:WF m){h:Nat}(hp:(nd m h).parent=none):depth m h=1:=by
 unfold depth;rw[W.anc_root hp];rfl
theorem WF.contains_self{m:Model}(W:WF m)(h:Nat):contains m h h=true:=by
 unfold contains;obtain⟨t,ht⟩:=W.anc_self h;rw[ht];simp
theorem WF.contains_step{m:Model}(W:WF m){a h p:Nat}(hp:(nd m h).parent=some p):contains m a h=(a==h || contains m a p):=by
 unfold contains;rw[W.anc_step hp]
 by_cases e:a=h
 ·simp[e]
 ·simp[e]
theorem WF.contains_root{m:Model}(W:WF m){a h:Nat}(hp:(nd m h).parent=none):contains m a h=(a==h):=by
 unfold contains;rw[W.anc_root hp]
 by_cases e:a=h
 ·simp[e]
 ·simp[e]
theorem WF.top_root{m:Model}(W:WF m){h:Nat}(hp:(nd m h).parent=none):top m h=h:=by
 unfold top;rw[W.anc_root hp];rfl
theorem WF.top_step{m:Model}(W:WF m){h p:Nat}(hp:(nd m h).parent=some p):top m h=top m p:=by
 unfold top;obtain⟨t,ht⟩:=W.anc_self p;rw[W.anc_step hp,ht,List.getLast?_cons_cons,List.getLast?_cons];rfl
theorem WF.up_ind{m:Model}(W:WF m){P:Nat->Prop}(h0:∀h,(nd m h).parent=none->P h)(h1:∀h p,(nd m h).parent=some p->P p->P h)(h:Nat):P h:=by
 have:∀n h,depth m h<=n->P h:=by
  intro n
  induction n with
  |zero=>intro h hn;have:=W.depth_pos h;omega
  |succ n ih=>
   intro h hn
   cases hp:(nd m h).parent with
   |none=>exact h0 h hp
   |some p=>exact h1 h p hp (ih p (by have:=W.depth_step hp;omega))
 exact this _ h (Nat.le_refl _)
theorem WF.down_ind{m:Model}(W:WF m){P:Nat->Prop}(h1:∀h,(∀k,k∈(nd m h).kids->P k)->P h)(h:Nat):P h:=by
 have:∀n h,129<=depth m h+n->P h:=by
  intro n
  induction n with
  |zero=>intro h hn;have:=W.depth_le h;omega
  |succ n ih=>exact fun h hn=>h1 h (fun k hk=>ih k (by have:=W.depth_step (W.kid h k hk).2;omega))
 exact this 129 h (by omega)
def walkN(m:Model):Nat->Nat->List Nat
 |0,_=>[]
 |n+1,h=>h :: ((nd m h).kids.flatMap (walkN m n))
def walk(m:Model)(h:Nat):List Nat:=walkN m 128 h
def maxL(l:List Nat):Nat:=l.foldl max 0
def heightN(m:Model):Nat->Nat->Nat
 |0,_=>0
 |n+1,h=>maxL ((nd m h).kids.map (heightN m n))+1
def height(m:Model)(h:Nat):Nat:=heightN m 128 h
theorem flat_congr{α β:Type}{l:List α}{f g:α->List β}(h:∀c∈l,f c=g c):l.flatMap f=l.flatMap g:=by
 rw[List.flatMap_def,List.flatMap_def,List.map_congr_left h]
theorem maxL_from(l:List Nat)(a:Nat):l.foldl max a=max a (maxL l):=by
 unfold maxL
 induction l generalizing a with
 |nil=>simp
 |cons b t ih=>rw[List.foldl_cons,List.foldl_cons,ih,ih (max 0 b)];omega
theorem maxL_cons(b:Nat)(t:List Nat):maxL (b :: t)=max b (maxL t):=by
 conv=>lhs;unfold maxL
 rw[List.foldl_cons,maxL_from];omega
theorem maxL_le{l:List Nat}{b:Nat}(h:∀x∈l,x<=b):maxL l<=b:=by
 induction l with
 |nil=>exact Nat.zero_le _
 |cons a t ih=>rw[maxL_cons];have:=h a (by simp);have:=ih (fun x hx=>h x (by simp[hx]));omega
theorem le_maxL{l:List Nat}{x:Nat}(h:x∈l):x<=maxL l:=by
 induction l with
 |nil=>cases h
 |cons a t ih=>
  rw[maxL_cons]
  rcases List.mem_cons.1 h with rfl|h
  ·omega
  ·have:=ih h;omega
theorem WF.walk_enough{m:Model}(W:WF m):∀(n k h:Nat),129<=depth m h+n->129<=depth m h+k->walkN m n h=walkN m k h
 |0,_,h,hn,_=>by have:=W.depth_le h;omega
 |_,0,h,_,hk=>by have:=W.depth_le h;omega
 |n+1,k+1,h,hn,hk=>by
  rw[walkN,walkN]
  congr 1
  rw[List.flatMap_def,List.flatMap_def]
  congr 1
  refine List.map_congr_left fun c hc=>WF.walk_enough W n k c ?_ ?_
  ·have:=W.depth_step (W.kid h c hc).2;omega
  ·have:=W.depth_step (W.kid h c hc).2;omega
theorem WF.walk_eq{m:Model}(W:WF m)(h:Nat):walk m h=h :: ((nd m h).kids.flatMap (walk m)):=by
 have e:walkN m (127+1) h=h :: ((nd m h).kids.flatMap (walkN m 127)):=by rw[walkN]
 refine Eq.trans e (congrArg (h :: ·) (flat_congr fun c hc=>W.walk_enough 127 128 c ?_ ?_))
 ·have:=W.depth_step (W.kid h c hc).2;have:=W.depth_pos h;omega
 ·have:=W.depth_pos c;omega
theorem WF.height_enough{m:Model}(W:WF m):∀(n k h:Nat),129<=depth m h+n->129<=depth m h+k->heightN m n h=heightN m k h
 |0,_,h,hn,_=>by have:=W.depth_le h;omega
 |_,0,h,_,hk=>by have:=W.depth_le h;omega
 |n+1,k+1,h,hn,hk=>by
  rw[heightN,heightN]
  congr 2
  refine List.map_congr_left fun c hc=>WF.height_enough W n k c ?_ ?_
  ·have:=W.depth_step (W.kid h c hc).2;omega
  ·have:=W.depth_step (W.kid h c hc).2;omega
theorem WF.height_eq{m:Model}(W:WF m)(h:Nat):height m h=maxL ((nd m h).kids.map (height m))+1:=by
 have e:heightN m (127+1) h=maxL ((nd m h).kids.map (heightN m 127))+1:=by rw[heightN]
 refine Eq.trans e (congrArg (fun l=>maxL l+1) (List.map_congr_left fun c hc=>W.height_enough 127 128 c ?_ ?_))
 ·have:=W.depth_step (W.kid h c hc).2;have:=W.depth_pos h;omega
 ·have:=W.depth_pos c;omega
theorem WF.height_kid{m:Model}(W:WF m){h k:Nat}(hk:k∈(nd m h).kids):height m k+1<=height m h:=by
 rw[W.height_eq h];have:=le_maxL (List.mem_map_of_mem (f:=height m) hk);omega
theorem WF.height_pos{m:Model}(W:WF m)(h:Nat):1<=height m h:=by rw[W.height_eq h];omega
theorem WF.height_depth{m:Model}(W:WF m)(h:Nat):height m h+depth m h<=129:=by
 refine W.down_ind (P:=fun h=>height m h+depth m h<=129) (fun h ih=>?_) h;rw[W.height_eq h];have:maxL ((nd m h).kids.map (height m))<=128-depth m h:=by
  refine maxL_le fun x hx=>?_;obtain⟨k,hk,rfl⟩:=List.mem_map.1 hx;have h1:=ih k hk;have h2:=W.depth_step (W.kid h k hk).2;omega
 have:=W.depth_le h;omega
theorem WF.mem_walk{m:Model}(W:WF m){a:Nat}(h:Nat)(ha:a<m.length):a∈walk m h↔contains m h a=true:=by
 have h1:∀a,contains m h a=true->a∈walk m h:=by
  intro a;refine W.up_ind (P:=fun a=>∀h,contains m h a=true->a∈walk m h) (fun a hp h hc=>?_) (fun a p hp ih h hc=>?_) a h
  ·rw[W.contains_root hp]at hc
   have:=beq_iff_eq.1 hc;subst this;rw[W.walk_eq];exact List.mem_cons_self ..
  ·rw[W.contains_step hp]at hc
   rcases Bool.or_eq_true_iff.1 hc with hc|hc
   ·have:=beq_iff_eq.1 hc
    subst this;rw[W.walk_eq];exact List.mem_cons_self ..
   ·have h2:=ih h hc
    have h3:∀h,p∈walk m h->a∈walk m h:=by
     intro h;refine W.down_ind (P:=fun h=>p∈walk m h->a∈walk m h) (fun h ih hm=>?_) h;rw[W.walk_eq]at hm ⊢
     rcases List.mem_cons.1 hm with e|hm
     ·subst e
      refine List.mem_cons_of_mem _ (List.mem_flatMap.2 ⟨a,(W.par a p hp).2,?_⟩);rw[W.walk_eq];exact List.mem_cons_self ..
     ·obtain⟨k,hk,hkm⟩:=List.mem_flatMap.1 hm
      exact List.mem_cons_of_mem _ (List.mem_flatMap.2 ⟨k,hk,ih k hk hkm⟩)
    exact h3 h h2
 refine⟨?_,h1 a⟩;refine W.down_ind (P:=fun h=>a∈walk m h->contains m h a=true) (fun h ih hm=>?_) h;rw[W.walk_eq]at hm
 rcases List.mem_cons.1 hm with e|hm
 ·subst e;exact W.contains_self a
 ·obtain⟨k,hk,hkm⟩:=List.mem_flatMap.1 hm
  have h2:=ih k hk hkm;have h3:∀a,contains m k a=true->contains m h a=true:=by
   intro a;refine W.up_ind (P:=fun a=>contains m k a=true->contains m h a=true) (fun a hp hc=>?_) (fun a p hp ih hc=>?_) a
   ·rw[W.contains_root hp]at hc
    have e:=beq_iff_eq.1 hc;subst e;rw[(W.kid h k hk).2]at hp
    cases hp
   ·rw[W.contains_step hp]at hc ⊢
    rcases Bool.or_eq_true_iff.1 hc with hc|hc
    ·have e:=beq_iff_eq.1 hc
     subst e;have e2:p=h:=by rw[(W.kid h k hk).2]at hp;injection hp with hp;exact hp.symm
     subst e2;rw[W.contains_self p,Bool.or_true]
    ·rw[ih hc,Bool.or_true]
  exact h3 a h2
end G
end
section
open Go.RowKit
namespace T
def Row(W:World)(g:Nat)(l:List UInt8):Prop:=
 (∀j (h:j<l.length),W.cell? ⟨g,j,none⟩=some (.int .u8 (l[j].toNat:Int)))/\(∀j,j<l.length->W.frozen? ⟨g,j,none⟩=false)
theorem Row.set{W:World}{g:Nat}{l:List UInt8}(h:Row W g l)(k:Nat)(hk:k<l.length)(c:UInt8):Row (W.setCell ⟨g,k,none⟩ (.int .u8 (c.toNat:Int))) g (l.set k c):=by
 refine⟨fun j hj=>?_,fun j hj=>?_⟩
 ·by_cases e:k=j
  ·subst e
   rw[World.cell?_setCell_same' _ _ _ (by rw[h.1 k hk];rfl)];simp
  ·have hj':j<l.length:=by simpa using hj
   rw[World.cell?_setCell_other]
   ·rw[h.1 j hj'];simp[List.getElem_set,e]
   ·simp[e]
 ·rw[World.frozen?_setCell];exact h.2 j (by simpa using hj)
theorem Row.same{W:World}{g:Nat}{l:List UInt8}(h:Row W g l)(k:Nat)(hk:k<l.length)(c:UInt8)(hc:l[k]=c):Row W g (l.set k c):=by
 subst hc;rw[List.set_getElem_self];exact h
theorem bytes_of(s:ByteArray)(w:World):∃cap W1,(convert 9 118 (.string s)).run Tryz.prog w=.ok (.slice (some ⟨w.heap.size,0,none⟩) s.size cap) W1/\Row W1 w.heap.size s.data.toList/\Below w.heap.size w W1:=by
 refine⟨_,_,run_bytes_of_string w 9 118 5 s Tryz.underlying9 Tryz.underlying118 Tryz.underlying5,⟨fun j hj=>?_,fun j hj=>?_⟩,?_⟩
 ·have hj':j<s.data.size:=by simpa using hj
  have:=World.cell?_alloc_mark w.drew (bytesRow s (grownCap w s.size 0 5)) 5 ((bytesRow s (grownCap w s.size 0 5)).size,(bytesRow s (grownCap w s.size 0 5)).size+1) j;refine this.trans ?_;rw[bytesRow_at s _ j hj'];simp
 ·have hj':j<s.data.size:=by simpa using hj
  have:=World.frozen?_alloc_mark w.drew (bytesRow s (grownCap w s.size 0 5)) 5 (bytesRow s (grownCap w s.size 0 5)).size ((bytesRow s (grownCap w s.size 0 5)).size+1) j;refine this.trans ?_;have hlt:j<(bytesRow s (grownCap w s.size 0 5)).size:=by have:=(bytesRow_at s (grownCap w s.size 0 5) j hj');exact(Array.getElem?_eq_some_iff.1 this).1
  have:decide ((bytesRow s (grownCap w s.size 0 5)).size<=j)=false:=by simp;exact hlt
  rw[this];rfl
 ·exact((Below.refl _ w).drew).alloc (Nat.le_refl _) _
theorem string_of(W:World)(g n cap:Nat)(l:List UInt8)(h:Row W g l)(hn:l.length=n) :
  (convert 118 9 (.slice (some ⟨g,0,none⟩) n cap)).run Tryz.prog W=.ok (.string ⟨l.toArray⟩) W:=by
 subst hn;exact run_convert_bytes_back W 118 9 5 ⟨g,0,none⟩ cap l Tryz.underlying118 Tryz.underlying5 Tryz.underlying9 (fun j hj=>by
  have h1:=h.1 j hj;have e:(⟨g,0,none⟩:Addr).add j=⟨g,j,none⟩:=by
   simp[Addr.add];intro h0;rw[h0]
  rw[e];exact h1)
def mp(f:UInt8->UInt8)(k:Nat)(l:List UInt8):List UInt8:=(l.take k).map f++l.drop k
theorem mp_length(f:UInt8->UInt8)(k:Nat)(l:List UInt8):(mp f k l).length=l.length:=by
 simp[mp];omega
theorem mp_at(f:UInt8->UInt8)(k:Nat)(l:List UInt8)(h:k<l.length)(h':k<(mp f k l).length):(mp f k l)[k]=l[k]:=by
 have hm:min k l.length=k:=by omega
 have e:(mp f k l)[k]?=l[k]?:=by
  unfold mp;rw[List.getElem?_append_right (by simp;omega)];simp[hm]
 rw[List.getElem?_eq_getElem h',List.getElem?_eq_getElem h]at e;exact Option.some.inj e
theorem mp_set(f:UInt8->UInt8)(k:Nat)(l:List UInt8)(h:k<l.length):(mp f k l).set k (f l[k])=mp f (k+1) l:=by
 unfold mp;have hm:min k l.length=k:=by omega
 rw[List.set_append_right _ _ (by simp;omega),List.drop_eq_getElem_cons h,List.take_succ_eq_append_getElem h,List.map_append,List.length_map,List.length_take,hm,Nat.sub_self,List.set_cons_zero];simp
theorem mp_all(f:UInt8->UInt8)(k:Nat)(l:List UInt8)(h:l.length<=k):mp f k l=l.map f:=by
 unfold mp;rw[List.take_of_length_le h,List.drop_of_length_le h,List.append_nil]
def MapRel(f:UInt8->UInt8)(s:ByteArray)(w:World)(i:Value)(wr:World):Prop:=
 ∃k:Nat,k<=s.size/\i=.int .i64 k/\Row wr w.heap.size (mp f k s.data.toList)/\Below w.heap.size w wr
theorem mapped(s:ByteArray)(lo hi d:Int)(f:UInt8->UInt8)(w:World)(hs:s.size<=140737488351232)(hd:-1000<=d/\d<=1000)
  (hin:∀c:UInt8,lo<=(c.toNat:Int)->(c.toNat:Int)<=hi->((f c).toNat:Int)=c.toNat+d) (hout:∀c:UInt8,¬(lo<=(c.toNat:Int)/\(c.toNat:Int)<=hi)->f c=c) :
  Calls Tryz.prog 169 #[.string s,.int .u8 lo,.int .u8 hi,.int .i64 d] w fun e w'=>e=.returned (.string ⟨(s.data.toList.map f).toArray⟩)/\Below w.heap.size w w':=by
 obtain⟨cap,W1,hconv,hR0,hB0⟩:=bytes_of s w;have H0:=hi_ hR0;have Hin:=hi_ hin;have Hout:=hi_ hout;obtain⟨hd1,hd2⟩:=hd;clear hR0 hin hout
 go_enter Tryz.func169,Tryz.ntmps169
 go_wp2_with fail
 clear hconv
 go_loopw [16] (fun i wr=>MapRel f s w i wr) (fun i _=>s.size-(Go.RowKit.intOf i).toNat)
 case atStart=>exact⟨0,Nat.zero_le _,rfl,by simpa[mp]using H0.out,hB0⟩
 case round=>
  obtain⟨k,hk,rfl,hR,hB⟩:=hrel;have HR:=hi_ hR;clear hR
  by_cases hlt:k<s.size
  ·have hl:k<s.data.toList.length:=by simpa using hlt
   have hc:=HR.out.1 k (by rw[mp_length];exact hl);rw[mp_at f k _ hl]at hc;have hf:=HR.out.2 k (by rw[mp_length];exact hl);have hb:=(s.data.toList[k]).toNat_lt;generalize hx:s.data.toList[k]=x at *;have HX:=hi_ hx;clear hx
   by_cases h1:lo<=(x.toNat:Int)
   ·by_cases h2:(x.toNat:Int)<=hi
    ·have e:=Hin.out x h1 h2
     have hb2:=(f x).toNat_lt;have hlo:0<=(x.toNat:Int)+d:=by omega
     have hhi:(x.toNat:Int)+d<256:=by omega
     have HE:=hi_ e;clear e;go_wp2_with fail
     go_roundw
     case rel=>
      refine⟨k+1,by omega,by go_num,?_,hB.setCell (p:=⟨w.heap.size,k,none⟩) (Nat.le_refl _) _⟩;have h3:=HR.out.set k (by rw[mp_length];exact hl) (f x);rw[<-HX.out,mp_set f k _ hl,HX.out,HE.out]at h3;exact h3
     case measure=>simp[Go.RowKit.intOf];omega
    ·have e:=Hout.out x (fun h=>h2 h.2)
     have h2':hi<(x.toNat:Int):=by omega
     clear h2;have HE:=hi_ e;clear e;go_wp2_with fail
     go_roundw
     case rel=>
      refine⟨k+1,by omega,by go_num,?_,hB⟩;have h3:=HR.out;rw[<-mp_set f k _ hl,HX.out,HE.out];exact h3.same k (by rw[mp_length];exact hl) x (by rw[mp_at f k _ hl];exact HX.out)
     case measure=>simp[Go.RowKit.intOf];omega
   ·have e:=Hout.out x (fun h=>h1 h.1)
    have h1':(x.toNat:Int)<lo:=by omega
    clear h1;have HE:=hi_ e;clear e;go_wp2_with fail
    go_roundw
    case rel=>
     refine⟨k+1,by omega,by go_num,?_,hB⟩;have h3:=HR.out;rw[<-mp_set f k _ hl,HX.out,HE.out];exact h3.same k (by rw[mp_length];exact hl) x (by rw[mp_at f k _ hl];exact HX.out)
    case measure=>simp[Go.RowKit.intOf];omega
  ·have hback:=string_of wr w.heap.size s.size cap _ HR.out (by rw[mp_length];simp)
   rw[mp_all f k _ (by simp;omega)]at hback;go_wp2_with fail
   go_ret
   exact⟨rfl,hB⟩
def low(c:UInt8):UInt8:=if 65<=c.toNat/\c.toNat<=90 then UInt8.ofNat (c.toNat+32)else c
def upp(c:UInt8):UInt8:=if 97<=c.toNat/\c.toNat<=122 then UInt8.ofNat (c.toNat-32)else c
theorem low_in(c:UInt8)(h1:65<=(c.toNat:Int))(h2:(c.toNat:Int)<=90):((low c).toNat:Int)=c.toNat+32:=by
 unfold low;rw[if_pos (by omega)];simp;omega
theorem low_out(c:UInt8)(h:¬(65<=(c.toNat:Int)/\(c.toNat:Int)<=90)):low c=c:=by
 unfold low;rw[if_neg (by omega)]
theorem upp_in(c:UInt8)(h1:97<=(c.toNat:Int))(h2:(c.toNat:Int)<=122):((upp c).toNat:Int)=c.toNat + -32:=by
 unfold upp;rw[if_pos (by omega)];simp;omega
theorem upp_out(c:UInt8)(h:¬(97<=(c.toNat:Int)/\(c.toNat:Int)<=122)):upp c=c:=by
 unfold upp;rw[if_neg (by omega)]
theorem Lower(s:ByteArray)(w:World)(hs:s.size<=140737488351232) :
  Calls Tryz.prog 164 #[.string s] w fun e w'=>e=.returned (.string ⟨(s.data.toList.map low).toArray⟩)/\Below w.heap.size w w':=by
 go_enter Tryz.func164,Tryz.ntmps164
 go_wp2_with (go_at_call 169;refine(mapped s 65 90 32 low _ hs (by omega) low_in low_out).mono ?_)
 rintro e w1 ⟨rfl,hb⟩;go_wp2_with fail
 go_ret
 exact⟨rfl,hb⟩
theorem getD_at(s:ByteArray)(k:Nat)(h:k<s.size):s.data.toList.getD k 0=s[k]:=by
 have h':k<s.data.toList.length:=by simpa using h
 rw[List.getD,List.getElem?_eq_getElem h'];rfl
theorem rng_yes(s:ByteArray)(k lo hi:Nat)(h:k<s.size)(h1:lo<=s[k].toNat)(h2:s[k].toNat<=hi):U.rng s.data.toList k lo hi=true:=by
 rw[U.rng_iff,getD_at s k h];exact⟨by simpa using h,h1,h2⟩
theorem rng_short(s:ByteArray)(k lo hi:Nat)(h:¬k<s.size):U.rng s.data.toList k lo hi=false:=by
 rw[Bool.eq_false_iff];intro e;rw[U.rng_iff]at e;exact h (by simpa using e.1)
theorem rng_no(s:ByteArray)(k lo hi:Nat)(h:k<s.size)(h1:¬(lo<=s[k].toNat/\s[k].toNat<=hi)):U.rng s.data.toList k lo hi=false:=by
 rw[Bool.eq_false_iff];intro e;rw[U.rng_iff,getD_at s k h]at e;exact h1 e.2
theorem ret_bool{a b:Bool}(h:a=b):Ending.returned (.bool a)=.returned (.bool b):=by rw[h]
theorem refIn(s:ByteArray)(i:Int)(lo hi:Nat)(w:World)(hs:s.size<=140737488351232)(h0:0<=i) :
  Calls Tryz.prog 146 #[.string s,.int .i64 i,.int .u8 lo,.int .u8 hi] w fun e w'=>e=.returned (.bool (U.rng s.data.toList i.toNat lo hi))/\w=w':=by
 obtain⟨k,rfl⟩:=Int.eq_ofNat_of_zero_le h0;rw[Int.toNat_natCast];clear h0
 by_cases hlt:k<s.size
 ·by_cases h1:lo<=s[k].toNat
  ·by_cases h2:s[k].toNat<=hi
   ·have HE:=hi_ (rng_yes s k lo hi hlt h1 h2)
    go_enter Tryz.func146,Tryz.ntmps146
    go_wp2
    go_ret
    exact⟨ret_bool (by rw[HE.out]),rfl⟩
   ·have HE:=hi_ (rng_no s k lo hi hlt (fun h=>h2 h.2))
    go_enter Tryz.func146,Tryz.ntmps146
    go_wp2
    go_ret
    exact⟨ret_bool (by rw[HE.out]),rfl⟩
  ·have HE:=hi_ (rng_no s k lo hi hlt (fun h=>h1 h.1))
   go_enter Tryz.func146,Tryz.ntmps146
   go_wp2
   go_ret
   exact⟨ret_bool (by rw[HE.out]),rfl⟩
 ·have HE:=hi_ (rng_short s k lo hi hlt)
  have hge:s.size<=k:=by omega
  clear hlt
  go_enter Tryz.func146,Tryz.ntmps146
  go_wp2
  go_ret
  exact⟨ret_bool (by rw[HE.out]),rfl⟩
theorem rng_drop(l:List UInt8)(i k lo hi:Nat):U.rng (l.drop i) k lo hi=U.rng l (i+k) lo hi:=by
 unfold U.rng;rw[U.getD_drop,List.length_drop];rw[decide_eq_decide];omega
def tl(l:List UInt8)(i:Nat):Nat->Bool
 |0=>true
 |n+1=>tl l i n && U.rng l (i+n) 128 191
theorem tl_false(l:List UInt8)(i k:Nat)(h:U.rng l (i+k) 128 191=false):∀n,k<n->tl l i n=false
 |0,hk=>by omega
 |n+1,hk=>by
  by_cases e:k=n
  ·subst e;simp[tl,h]
  ·simp[tl,tl_false l i k h n (by omega)]
theorem refTail(s:ByteArray)(i:Int)(n:Nat)(w:World)(hs:s.size<=140737488351232)(h0:0<=i)(hi:i<=140737488361232)(hn:n<=10) :
  Calls Tryz.prog 147 #[.string s,.int .i64 i,.int .i64 n] w fun e w'=>e=.returned (.bool (tl s.data.toList i.toNat n))/\w=w':=by
 obtain⟨j,rfl⟩:=Int.eq_ofNat_of_zero_le h0;rw[Int.toNat_natCast];clear h0
 go_enter Tryz.func147,Tryz.ntmps147
 go_wp2_with fail
 go_loop [7] (fun c=>∃k:Nat,k<=n/\c=.int .i64 k/\Hid (tl s.data.toList j k=true)) (fun c=>n-(Go.RowKit.intOf c).toNat)
 case atStart=>exact⟨0,Nat.zero_le _,rfl,hi_ rfl⟩
 case round=>
  obtain⟨k,hk,rfl,HT⟩:=hrel
  by_cases hlt:k<n
  ·cases hr:U.rng s.data.toList (j+k) 128 191 with
   |true=>
    have HR:=hi_ hr;have hc:=fun W=>refIn s ((j:Int)+k) 128 191 W hs (by omega);rw[show((j:Int)+k).toNat=j+k from by omega,hr]at hc;have HC:=hi_ hc;clear hc hr;go_wp2_with (go_at_call 146;refine(HC.out _).mono ?_;rintro e w' ⟨rfl,rfl⟩)
    go_round
    case rel=>exact⟨k+1,by omega,by go_num,hi_ (by simp[tl,HT.out,HR.out])⟩
    case measure=>simp[Go.RowKit.intOf];omega
   |false=>
    have HF:=hi_ (tl_false _ _ _ hr n hlt);have hc:=fun W=>refIn s ((j:Int)+k) 128 191 W hs (by omega);rw[show((j:Int)+k).toNat=j+k from by omega,hr]at hc;have HC:=hi_ hc;clear hc hr;go_wp2_with (go_at_call 146;refine(HC.out _).mono ?_;rintro e w' ⟨rfl,rfl⟩)
    go_ret
    exact⟨ret_bool HF.out.symm,rfl⟩
  ·obtain rfl:k=n:=by omega
   go_wp2_with fail
   go_ret
   exact⟨ret_bool HT.out.symm,rfl⟩
theorem second_eq(s:ByteArray)(k:Nat)(h:k<s.size):U.second (s.data.toList.drop k) =
  if s[k].toNat=224 then U.rng s.data.toList (k+1) 160 191
  else if s[k].toNat=237 then U.rng s.data.toList (k+1) 128 159
  else if s[k].toNat=240 then U.rng s.data.toList (k+1) 144 191
  else if s[k].toNat=244 then U.rng s.data.toList (k+1) 128 143
  else U.rng s.data.toList (k+1) 128 191:=by
 unfold U.second;simp only[U.getD_drop,Nat.add_zero,getD_at s k h,rng_drop]
theorem refSecond(s:ByteArray)(i:Int)(w:World)(hs:s.size<=140737488351232)(h0:0<=i)(hi:i<s.size) :
  Calls Tryz.prog 148 #[.string s,.int .i64 i] w fun e w'=>e=.returned (.bool (U.second (s.data.toList.drop i.toNat)))/\w=w':=by
 obtain⟨k,rfl⟩:=Int.eq_ofNat_of_zero_le h0;rw[Int.toNat_natCast];clear h0;have hlt:k<s.size:=by omega
 rw[second_eq s k hlt];have hc:=fun lo hi W=>refIn s ((k:Int)+1) lo hi W hs (by omega);simp only[show((k:Int)+1).toNat=k+1 from by omega]at hc;have HC:=hi_ hc;clear hc;have hb:=(s[k]).toNat_lt
 by_cases h1:s[k].toNat=224
 ·rw[if_pos h1]
  have t1:((s[k].toNat:Int)==224)=true:=beq_iff_eq.2 (by omega);clear h1
  go_enter Tryz.func148,Tryz.ntmps148
  go_wp2_with (go_at_call 146;refine(HC.out 160 191 _).mono ?_;rintro e w' ⟨rfl,rfl⟩)
  go_ret
  exact⟨rfl,rfl⟩
 rw[if_neg h1];have t1:((s[k].toNat:Int)==224)=false:=beq_eq_false_iff_ne.2 (by omega);clear h1
 by_cases h2:s[k].toNat=237
 ·rw[if_pos h2]
  have t2:((s[k].toNat:Int)==237)=true:=beq_iff_eq.2 (by omega);clear h2
  go_enter Tryz.func148,Tryz.ntmps148
  go_wp2_with (go_at_call 146;refine(HC.out 128 159 _).mono ?_;rintro e w' ⟨rfl,rfl⟩)
  go_ret
  exact⟨rfl,rfl⟩
 rw[if_neg h2];have t2:((s[k].toNat:Int)==237)=false:=beq_eq_false_iff_ne.2 (by omega);clear h2
 by_cases h3:s[k].toNat=240
 ·rw[if_pos h3]
  have t3:((s[k].toNat:Int)==240)=true:=beq_iff_eq.2 (by omega);clear h3
  go_enter Tryz.func148,Tryz.ntmps148
  go_wp2_with (go_at_call 146;refine(HC.out 144 191 _).mono ?_;rintro e w' ⟨rfl,rfl⟩)
  go_ret
  exact⟨rfl,rfl⟩
 rw[if_neg h3];have t3:((s[k].toNat:Int)==240)=false:=beq_eq_false_iff_ne.2 (by omega);clear h3
 by_cases h4:s[k].toNat=244
 ·rw[if_pos h4]
  have t4:((s[k].toNat:Int)==244)=true:=beq_iff_eq.2 (by omega);clear h4
  go_enter Tryz.func148,Tryz.ntmps148
  go_wp2_with (go_at_call 146;refine(HC.out 128 143 _).mono ?_;rintro e w' ⟨rfl,rfl⟩)
  go_ret
  exact⟨rfl,rfl⟩
 rw[if_neg h4];have t4:((s[k].toNat:Int)==244)=false:=beq_eq_false_iff_ne.2 (by omega);clear h4
 go_enter Tryz.func148,Tryz.ntmps148
 go_wp2_with (go_at_call 146;refine(HC.out 128 191 _).mono ?_;rintro e w' ⟨rfl,rfl⟩)
 go_ret
 exact⟨rfl,rfl⟩
end T
end
section
namespace G
theorem WF.same{m m':Model}(W:WF m)(hl:m'.length=m.length)(h:∀i,(nd m' i).kind=(nd m i).kind/\(nd m' i).parent=(nd m i).parent/\(nd m' i).kids=(nd m i).kids/\(nd m' i).gone=(nd m i).gone):WF m':=by
 have he:∀n i,G.ends m n i->G.ends m' n i:=by
  intro n
  induction n with
  |zero=>intro i h;exact h.elim
  |succ n ih=>
   intro i he
   cases hp:(nd m i).parent with
   |none=>exact ends_root ((h i).2.1.trans hp)
   |some p=>exact(ends_step ((h i).2.1.trans hp)).2 (ih p ((ends_step hp).1 he))
 refine⟨⟨by rw[hl];exact W.doc.1,(h 0).1.trans W.doc.2.1,(h 0).2.1.trans W.doc.2.2.1,(h 0).2.2.2.trans W.doc.2.2.2⟩,fun i hi h0=>?_,fun i p hp=>?_,fun p i hi=>?_,fun p=>?_,fun i p hp=>?_,fun i hi=>he _ _ (W.ends i (by rw[<-hl];exact hi)),fun i hi=>?_⟩
 ·rw[(h i).1];exact W.kinds i (by rw[<-hl];exact hi) h0
 ·rw[(h i).2.1]at hp;rw[hl,(h p).2.2.1];exact W.par i p hp
 ·rw[(h p).2.2.1]at hi;rw[hl,(h i).2.1];exact W.kid p i hi
 ·rw[(h p).2.2.1];exact W.nodup p
 ·rw[(h i).2.1]at hp;rw[(h i).2.2.2,(h p).2.2.2];exact W.gone i p hp
 ·rw[(h i).1]at hi;rw[(h i).2.2.1];exact W.leaf i hi
def cut(m:Model)(h p:Nat):Model:=upd (upd m p fun x=>{ x with kids:=x.kids.erase h }) h fun x=>{ x with parent:=none }
@[simp] theorem cut_len (m:Model) (h p:Nat):(cut m h p).length=m.length:=by unfold cut;simp
theorem nd_cut{m:Model}{h p:Nat}(h1:h<m.length)(h2:p<m.length)(j:Nat) :
  nd (cut m h p) j={ nd m j with kids:=if j=p then(nd m j).kids.erase h else(nd m j).kids,parent:=if j=h then none else(nd m j).parent }:=by
 unfold cut;rw[nd_upd (by simpa using h1),nd_upd h2]
 by_cases e1:j=h
 ·by_cases e2:j=p
  ·simp only[if_pos e1,if_pos e2]
  ·simp only[if_pos e1,if_neg e2]
 ·by_cases e2:j=p
  ·simp only[if_neg e1,if_pos e2]
  ·simp only[if_neg e1,if_neg e2]
theorem WF.ne_parent{m:Model}(W:WF m){h p:Nat}(hp:(nd m h).parent=some p):h≠p:=by
 intro e;subst e;have:=W.depth_step hp;omega
theorem ends_cut{m:Model}{h p:Nat}(h1:h<m.length)(h2:p<m.length):∀n i,ends m n i->ends (cut m h p) n i:=by
 intro n
 induction n with
 |zero=>intro i h;exact h.elim
 |succ n ih=>
  intro i he;have hq:(nd (cut m h p) i).parent=if i=h then none else(nd m i).parent:=by rw[nd_cut h1 h2]
  by_cases e:i=h
  ·rw[if_pos e]at hq;exact ends_root hq
  ·rw[if_neg e]at hq
   cases hp:(nd m i).parent with
   |none=>exact ends_root (hq.trans hp)
   |some q=>exact(ends_step (hq.trans hp)).2 (ih q ((ends_step hp).1 he))
theorem WF.cut{m:Model}(W:WF m){h p:Nat}(hp:(nd m h).parent=some p):WF (cut m h p):=by
 obtain⟨h1,h2⟩:=W.lt hp;have hk:∀j,(nd (G.cut m h p) j).kind=(nd m j).kind:=fun j=>by rw[nd_cut h1 h2]
 have hP:∀j,(nd (G.cut m h p) j).parent=if j=h then none else(nd m j).parent:=fun j=>by rw[nd_cut h1 h2]
 have hK:∀j,(nd (G.cut m h p) j).kids=if j=p then(nd m j).kids.erase h else(nd m j).kids:=fun j=>by rw[nd_cut h1 h2]
 have hg:∀j,(nd (G.cut m h p) j).gone=(nd m j).gone:=fun j=>by rw[nd_cut h1 h2]
 have h0:h≠0:=fun e=>by subst e;rw[W.doc.2.2.1]at hp;cases hp
 refine⟨⟨by rw[cut_len];exact W.doc.1,(hk 0).trans W.doc.2.1,?_,(hg 0).trans W.doc.2.2.2⟩,fun i hi hi0=>?_,fun i q hq=>?_,fun q i hi=>?_,fun q=>?_,fun i q hq=>?_,fun i hi=>ends_cut h1 h2 _ _ (W.ends i (by rw[cut_len]at hi;exact hi)),fun i hi=>?_⟩
 ·rw[hP,if_neg (fun e=>h0 e.symm)];exact W.doc.2.2.1
 ·rw[hk];exact W.kinds i (by rw[cut_len]at hi;exact hi) hi0
 ·rw[hP]at hq
  split at hq
  ·cases hq
  ·rename_i e
   obtain⟨h3,h4⟩:=W.par i q hq;rw[cut_len,hK];refine⟨h3,?_⟩
   split
   ·exact(List.mem_erase_of_ne e).2 h4
   ·exact h4
 ·rw[hK]at hi
  have h3:i∈(nd m q).kids:=by
   split at hi
   ·exact List.mem_of_mem_erase hi
   ·exact hi
  obtain⟨h4,h5⟩:=W.kid q i h3;rw[cut_len,hP];refine⟨h4,?_⟩
  by_cases e:i=h
  ·exfalso
   subst e;have hqp:q=p:=by rw[hp]at h5;injection h5 with h5;exact h5.symm
   subst hqp;rw[if_pos rfl]at hi;exact(W.nodup q).not_mem_erase hi
  ·rw[if_neg e];exact h5
 ·rw[hK]
  split
  ·exact(W.nodup q).erase h
  ·exact W.nodup q
 ·rw[hP]at hq
  split at hq
  ·cases hq
  ·rw[hg,hg];exact W.gone i q hq
 ·rw[hk]at hi
  rw[hK,W.leaf i hi]
  split<;>rfl
def put(m:Model)(p h i:Nat):Model:=upd (upd m p fun x=>{ x with kids:=x.kids.take i++h :: x.kids.drop i }) h fun x=>{ x with parent:=some p }
@[simp] theorem put_len (m:Model) (p h i:Nat):(put m p h i).length=m.length:=by unfold put;simp
theorem nd_put{m:Model}{p h i:Nat}(h1:h<m.length)(h2:p<m.length)(j:Nat) :
  nd (put m p h i) j={ nd m j with kids:=if j=p then(nd m j).kids.take i++h :: (nd m j).kids.drop i else(nd m j).kids,parent:=if j=h then some p else(nd m j).parent }:=by
 unfold put;rw[nd_upd (by simpa using h1),nd_upd h2]
 by_cases e1:j=h
 ·by_cases e2:j=p
  ·simp only[if_pos e1,if_pos e2]
  ·simp only[if_pos e1,if_neg e2]
 ·by_cases e2:j=p
  ·simp only[if_neg e1,if_pos e2]
  ·simp only[if_neg e1,if_neg e2]
theorem WF.put{m:Model}(W:WF m){p h i:Nat}(hr:(nd m h).parent=none)(h0:h≠0)(h1:h<m.length)(h2:p<m.length)(hc:contains m h p=false)(hd:depth m p+height m h<=128)(hkp:(nd m p).kind<=2)(hgn:(nd m h).gone=(nd m p).gone):WF (put m p h i):=by
 have hk:∀j,(nd (G.put m p h i) j).kind=(nd m j).kind:=fun j=>by rw[nd_put h1 h2]
 have hP:∀j,(nd (G.put m p h i) j).parent=if j=h then some p else(nd m j).parent:=fun j=>by rw[nd_put h1 h2]
 have hK:∀j,(nd (G.put m p h i) j).kids=if j=p then(nd m j).kids.take i++h :: (nd m j).kids.drop i else(nd m j).kids:=fun j=>by rw[nd_put h1 h2]
 have hg:∀j,(nd (G.put m p h i) j).gone=(nd m j).gone:=fun j=>by rw[nd_put h1 h2]
 have hnk:∀q,h∉(nd m q).kids:=fun q hq=>by have:=(W.kid q h hq).2;rw[hr]at this;cases this
 have hmem:∀x (l:List Nat),x∈l.take i++h :: l.drop i↔x=h\/x∈l:=by
  intro x l;rw[List.mem_append,List.mem_cons];constructor
  ·rintro(h3|h3|h3)
   ·exact Or.inr (List.mem_of_mem_take h3)
   ·exact Or.inl h3
   ·exact Or.inr (List.mem_of_mem_drop h3)
  ·rintro(h3|h3)
   ·exact Or.inr (Or.inl h3)
   ·rw[<-List.take_append_drop i l,List.mem_append]at h3
    rcases h3 with h3|h3
    ·exact Or.inl h3
    ·exact Or.inr (Or.inr h3)
 -- the ways up that do not pass h stay
 have hout:∀n j,contains m h j=false->G.ends m n j->G.ends (G.put m p h i) n j:=by
  intro n
  induction n with
  |zero=>intro j _ h;exact h.elim
  |succ n ih=>
   intro j hcj he;have hj:j≠h:=fun e=>by rw[e,W.contains_self]at hcj;cases hcj
   have hq:=hP j;rw[if_neg hj]at hq
   cases hpj:(nd m j).parent with
   |none=>exact ends_root (hq.trans hpj)
   |some q=>
    rw[W.contains_step hpj,Bool.or_eq_false_iff]at hcj;exact(ends_step (hq.trans hpj)).2 (ih q hcj.2 ((ends_step hpj).1 he))
 have hbase:G.ends (G.put m p h i) (depth m p) p:=hout _ p hc (ends_len (W.ends p h2));have hin:∀j,contains m h j=true->∃s,s+height m j<=height m h/\G.ends (G.put m p h i) (s+1+depth m p) j:=by
  intro j;refine W.up_ind (P:=fun j=>contains m h j=true->∃s,s+height m j<=height m h/\G.ends (G.put m p h i) (s+1+depth m p) j) (fun j hpj hcj=>?_) (fun j q hpj ih hcj=>?_) j
  ·rw[W.contains_root hpj]at hcj
   have e:=beq_iff_eq.1 hcj;subst e;refine⟨0,by omega,?_⟩;rw[show 0+1+depth m p=depth m p+1 by omega];exact(ends_step (by rw[hP,if_pos rfl])).2 hbase
  ·rw[W.contains_step hpj]at hcj
   have hj:j≠h:=fun e=>by subst e;rw[hr]at hpj;cases hpj
   rcases Bool.or_eq_true_iff.1 hcj with h3|h3
   ·exact absurd (beq_iff_eq.1 h3).symm hj
   ·obtain⟨s,hs,he⟩:=ih h3
    refine⟨s+1,?_,?_⟩
    ·have:=W.height_kid (W.par j q hpj).2
     omega
    ·rw[show s+1+1+depth m p=(s+1+depth m p)+1 by omega]
     exact(ends_step (by rw[hP,if_neg hj];exact hpj)).2 he
 refine⟨⟨by rw[put_len];exact W.doc.1,(hk 0).trans W.doc.2.1,?_,(hg 0).trans W.doc.2.2.2⟩,fun j hj hj0=>?_,fun j q hq=>?_,fun q j hj=>?_,fun q=>?_,fun j q hq=>?_,fun j hj=>?_,fun j hj=>?_⟩
 ·rw[hP,if_neg (fun e=>h0 e.symm)];exact W.doc.2.2.1
 ·rw[hk];exact W.kinds j (by rw[put_len]at hj;exact hj) hj0
 ·rw[hP]at hq
  rw[put_len,hK]
  split at hq
  ·rename_i e
   have e2:p=q:=by injection hq
   subst e2 e;exact⟨h2,by rw[if_pos rfl];exact(hmem _ _).2 (Or.inl rfl)⟩
  ·obtain⟨h3,h4⟩:=W.par j q hq
   refine⟨h3,?_⟩
   split
   ·exact(hmem _ _).2 (Or.inr h4)
   ·exact h4
 ·rw[hK]at hj
  rw[put_len,hP]
  split at hj
  ·rename_i e
   subst e
   rcases(hmem _ _).1 hj with e|h3
   ·subst e;exact⟨h1,by rw[if_pos rfl]⟩
   ·obtain⟨h4,h5⟩:=W.kid q j h3
    refine⟨h4,?_⟩;rw[if_neg (fun e=>by subst e;exact hnk _ h3)];exact h5
  ·obtain⟨h4,h5⟩:=W.kid q j hj
   refine⟨h4,?_⟩;rw[if_neg (fun e=>by subst e;exact hnk _ hj)];exact h5
 ·rw[hK]
  split
  ·have h3:=W.nodup q
   have h4:=hnk q;rw[<-List.take_append_drop i (nd m q).kids]at h3 h4;rw[List.mem_append,not_or]at h4;rw[List.nodup_append]at h3 ⊢;obtain⟨h5,h6,h7⟩:=h3;refine⟨h5,List.nodup_cons.2 ⟨h4.2,h6⟩,fun x hx y hy=>?_⟩
   rcases List.mem_cons.1 hy with e|hy
   ·subst e;intro e;subst e;exact h4.1 hx
   ·exact h7 x hx y hy
  ·exact W.nodup q
 ·rw[hP]at hq
  rw[hg,hg]
  split at hq
  ·rename_i e
   have e2:p=q:=by injection hq
   subst e2 e;exact hgn
  ·exact W.gone j q hq
 ·rw[put_len]at hj
  cases hcj:contains m h j with
  |false=>exact hout _ j hcj (W.ends j hj)
  |true=>
   obtain⟨s,hs,he⟩:=hin j hcj;refine ends_more he ?_;have:=W.height_pos j;omega
 ·rw[hk]at hj
  rw[hK,W.leaf j hj]
  split
  ·rename_i e
   subst e;omega
  ·rfl
theorem WF.make{m:Model}(W:WF m){x:Node}(h1:x.parent=none)(h2:x.kids=[])(h3:2<=x.kind/\x.kind<=4):WF (m++[x]):=by
 have he:∀n i,i<m.length->G.ends m n i->G.ends (m++[x]) n i:=by
  intro n
  induction n with
  |zero=>intro i _ h;exact h.elim
  |succ n ih=>
   intro i hi he;have hq:(nd (m++[x]) i).parent=(nd m i).parent:=by rw[nd_app hi]
   cases hp:(nd m i).parent with
   |none=>exact ends_root (hq.trans hp)
   |some p=>exact(ends_step (hq.trans hp)).2 (ih p (W.lt hp).2 ((ends_step hp).1 he))
 have hn:(m++[x]).length=m.length+1:=by simp
 have hd:=W.doc.1;refine⟨⟨by omega,by rw[nd_app hd];exact W.doc.2.1,by rw[nd_app hd];exact W.doc.2.2.1,by rw[nd_app hd];exact W.doc.2.2.2⟩,fun i hi h0=>?_,fun i p hp=>?_,fun p i hi=>?_,fun p=>?_,fun i p hp=>?_,fun i hi=>?_,fun i hi=>?_⟩
 ·rw[nd_app_cases]
  split
  ·exact h3
  ·exact W.kinds i (by omega) h0
 ·rw[nd_app_cases]at hp
  split at hp
  ·rw[h1]at hp;cases hp
  ·obtain⟨h4,h5⟩:=W.par i p hp
   rw[hn,nd_app h4];exact⟨by omega,h5⟩
 ·rw[nd_app_cases]at hi
  split at hi
  ·rw[h2]at hi;cases hi
  ·obtain⟨h4,h5⟩:=W.kid p i hi
   rw[hn,nd_app h4];exact⟨by omega,h5⟩
 ·rw[nd_app_cases]
  split
  ·rw[h2];exact List.nodup_nil
  ·exact W.nodup p
 ·rw[nd_app_cases]at hp
  split at hp
  ·rw[h1]at hp;cases hp
  ·obtain⟨h4,h5⟩:=W.lt hp
   rw[nd_app h4,nd_app h5];exact W.gone i p hp
 ·rcases Nat.lt_or_ge i m.length with h4|h4
  ·exact he _ i h4 (W.ends i h4)
  ·have e:i=m.length:=by omega
   subst e;exact ends_root (by rw[nd_new];exact h1)
 ·rw[nd_app_cases]at hi ⊢
  split
  ·exact h2
  ·rename_i e
   rw[if_neg e]at hi;exact W.leaf i hi
def drop(m:Model)(h:Nat):Model:=m.mapIdx fun i x=>{ x with gone:=x.gone || (walk m h).contains i }
@[simp] theorem drop_len (m:Model) (h:Nat):(drop m h).length=m.length:=by unfold drop;simp
theorem nd_drop{m:Model}{h:Nat}(j:Nat)(hj:j<m.length):nd (drop m h) j={ nd m j with gone:=(nd m j).gone || (walk m h).contains j }:=by
 unfold nd drop;rw[List.getD_eq_getElem?_getD,List.getD_eq_getElem?_getD,List.getElem?_mapIdx];simp[hj]
theorem WF.drop{m:Model}(W:WF m){h:Nat}(hr:(nd m h).parent=none)(h0:h≠0):WF (drop m h):=by
 have hf:∀j,(nd (G.drop m h) j).kind=(nd m j).kind/\(nd (G.drop m h) j).parent=(nd m j).parent/\(nd (G.drop m h) j).kids=(nd m j).kids:=by
  intro j
  rcases Nat.lt_or_ge j m.length with hj|hj
  ·rw[nd_drop j hj];exact⟨rfl,rfl,rfl⟩
  ·rw[nd_out hj,nd_out (by rw[drop_len];exact hj)];exact⟨rfl,rfl,rfl⟩
 have hg:∀j,j<m.length->(nd (G.drop m h) j).gone=((nd m j).gone || contains m h j):=by
  intro j hj;rw[nd_drop j hj];show((nd m j).gone || (walk m h).contains j)=_
  congr 1
  rw[Bool.eq_iff_iff,List.contains_iff_mem];exact W.mem_walk h hj
 have hs:∀n i,G.ends m n i->G.ends (G.drop m h) n i:=by
  intro n
  induction n with
  |zero=>intro i h;exact h.elim
  |succ n ih=>
   intro i he
   cases hp:(nd m i).parent with
   |none=>exact ends_root ((hf i).2.1.trans hp)
   |some p=>exact(ends_step ((hf i).2.1.trans hp)).2 (ih p ((ends_step hp).1 he))
 refine⟨⟨by rw[drop_len];exact W.doc.1,(hf 0).1.trans W.doc.2.1,(hf 0).2.1.trans W.doc.2.2.1,?_⟩,fun i hi hi0=>?_,fun i p hp=>?_,fun p i hi=>?_,fun p=>?_,fun i p hp=>?_,fun i hi=>hs _ _ (W.ends i (by rw[drop_len]at hi;exact hi)),fun i hi=>?_⟩
 ·rw[hg 0 W.doc.1,W.doc.2.2.2,W.contains_root W.doc.2.2.1]
  simp[h0]
 ·rw[(hf i).1];exact W.kinds i (by rw[drop_len]at hi;exact hi) hi0
 ·rw[(hf i).2.1]at hp;rw[drop_len,(hf p).2.2];exact W.par i p hp
 ·rw[(hf p).2.2]at hi;rw[drop_len,(hf i).2.1];exact W.kid p i hi
 ·rw[(hf p).2.2];exact W.nodup p
 ·rw[(hf i).2.1]at hp
  obtain⟨h1,h2⟩:=W.lt hp;rw[hg i h1,hg p h2,W.gone i p hp,W.contains_step hp];have hne:(h==i)=false:=by
   rw[beq_eq_false_iff_ne];intro e;subst e;rw[hr]at hp
   cases hp
  rw[hne,Bool.false_or]
 ·rw[(hf i).1]at hi;rw[(hf i).2.2];exact W.leaf i hi
end G
end
section
open Go.RowKit
namespace H
theorem bytes_size(l:List UInt8):(⟨l.toArray⟩:ByteArray).size=l.length:=by show l.toArray.size=_;simp
theorem ret_bool{a b:Bool}(h:a=b):Ending.returned (.bool a)=.returned (.bool b):=by rw[h]
theorem ret_int{k:IntKind}{a b:Int}(h:a=b):Ending.returned (.int k a)=.returned (.int k b):=by rw[h]
theorem bset{B b o:Nat}{a w:World}{v:Value}(h:Below B a w)(hb:B<=b):Below B a (w.setCell ⟨b,o,none⟩ v):=h.setCell hb v
theorem cells_of{w:World}{b:Nat}{cs:Array Value}{t:TypeId}(h:w.heap[b]?=some (.cells cs t (0,0))):(∀o,w.cell? ⟨b,o,none⟩=cs[o]?)/\(∀o,o<cs.size->w.frozen? ⟨b,o,none⟩=false):=by
 refine⟨fun o=>by simp[World.cell?,h],fun o ho=>by simp[World.frozen?,h]⟩
theorem block_set{w:World}{b o:Nat}{cs:Array Value}{t:TypeId}{f:Nat×Nat}{v:Value}(h:w.heap[b]?=some (.cells cs t f)):(w.setCell ⟨b,o,none⟩ v).heap[b]?=some (.cells (cs.setIfInBounds o v) t f):=by
 have hlt:=lt_of_block h;have h':w.heap[b]=.cells cs t f:=by simpa[Array.getElem?_eq_getElem hlt]using h
 show(w.heap.modify b _)[b]?=_;rw[Array.getElem?_eq_getElem (by simpa using hlt),Array.getElem_modify_self,h'];rfl
theorem quietAdd{P:Program}{f:FuncId}{args:Array Value}{w:World}{n:Nat}{v:Value}
  (h:Calls P f args (w.drewN n) fun e w'=>e=.returned v/\w.drewN n=w'):Calls P f args (w.drewN n) fun e w''=>e=.returned v/\∃m,w''=w.drewN m:=
 h.mono fun _ _ hh=>⟨hh.1,n,hh.2.symm⟩
end H
end
section
open Go.RowKit
namespace T
end T
end
section
namespace G
theorem model_ext{m m':Model}(hl:m.length=m'.length)(h:∀i,nd m i=nd m' i):m=m':=by
 refine List.ext_getElem hl fun i h1 h2=>?_;have:=h i
 rwa [nd_in h1,nd_in h2]at this
def addc(m:Model)(x:Node):Option Nat->Model
 |none=>m++[{ x with parent:=none }]
 |some p=>upd (m++[{ x with parent:=some p }]) p fun y=>{ y with kids:=y.kids++[m.length] }
def bare(x:Node):Node:=⟨x.kind,x.name,x.attrs,x.data,none,[],false⟩
def copyN:Nat->Model->Nat->Option Nat->Bool->Model
 |0,m,_,_,_=>m
 |n+1,m,h,par,deep=>
  if deep then(nd m h).kids.foldl (fun m' c=>copyN n m' c (some m.length) true) (addc m (bare (nd m h)) par)
  else addc m (bare (nd m h)) par
def copyT:Nat->Model->Nat->Bool->Model
 |0,m,_,_=>m
 |n+1,m,h,deep=>
  if deep then(nd m h).kids.foldl (fun m' c=>put (copyT n m' c true) m.length m'.length (nd (copyT n m' c true) m.length).kids.length) (m++[bare (nd m h)])
  else m++[bare (nd m h)]
theorem addc_len(m:Model)(x:Node)(par:Option Nat):(addc m x par).length=m.length+1:=by
 cases par<;>simp[addc]
theorem addc_put{m:Model}{x:Node}{p:Nat}(hp:p<m.length):addc m x (some p)=put (addc m x none) p m.length (nd m p).kids.length:=by
 have hz:(m++[{ x with parent:=none }]).length=m.length+1:=by simp
 have hz2:(m++[{ x with parent:=some p }]).length=m.length+1:=by simp
 refine model_ext (by simp[addc]) fun i=>?_;unfold addc;dsimp only;rw[nd_put (by omega) (by omega),nd_upd (by omega),nd_app_cases,nd_app_cases]
 by_cases e1:i=p
 ·have e2:¬i=m.length:=by omega
  have e3:¬p=m.length:=by omega
  rw[if_pos e1,if_neg e2,if_neg e2];simp[e1,e3]
 ·by_cases e2:i=m.length
  ·rw[if_neg e1,if_pos e2,if_pos e2]
   simp[e1,e2];intro e;omega
  ·rw[if_neg e1,if_neg e2,if_neg e2]
   simp[e1,e2]
theorem put_app{m:Model}{x:Node}{p k L:Nat}(hp:p<m.length)(hk:k<m.length):put (m++[x]) p k L=put m p k L++[x]:=by
 have hz:(m++[x]).length=m.length+1:=by simp
 refine model_ext (by simp) fun i=>?_;rw[nd_put (by omega) (by omega),nd_app_cases,nd_app_cases,put_len]
 by_cases e:i=m.length
 ·have e1:¬m.length=p:=by omega
  have e2:¬m.length=k:=by omega
  simp[e,e1,e2]
 ·simp only[if_neg e]
  rw[nd_put hk hp]
theorem put_addc{m:Model}{x:Node}{p k L:Nat}{par:Option Nat}(hp:p<m.length)(hk:k<m.length)(hq:∀q,par=some q->q<m.length/\q≠p):addc (put m p k L) x par=put (addc m x par) p k L:=by
 cases par with
 |none=>unfold addc;dsimp only;rw[put_app hp hk]
 |some q=>
  obtain⟨h1,h2⟩:=hq q rfl;unfold addc;dsimp only;rw[<-put_app hp hk,put_len];have hz:(m++[{ x with parent:=some q }]).length=m.length+1:=by simp
  refine model_ext (by simp) fun i=>?_;rw[nd_upd (by rw[put_len];omega),nd_put (by omega) (by omega),nd_put (by rw[upd_len];omega) (by rw[upd_len];omega),nd_upd (by omega)]
  by_cases e1:i=q
  ·have e2:¬i=p:=fun e=>h2 (e1.symm.trans e)
   simp only[if_pos e1,if_neg e2]
  ·simp only[if_neg e1]
def Low(B:Nat)(m:Model):Prop:=∀i,i<B->∀c,c∈(nd m i).kids->c<B
theorem nd_addc{m:Model}{x:Node}{par:Option Nat}{i:Nat}(hi:i<m.length)(hq:∀q,par=some q->q<m.length/\i≠q):nd (addc m x par) i=nd m i:=by
 cases par with
 |none=>unfold addc;exact nd_app hi
 |some q=>
  obtain⟨h1,h2⟩:=hq q rfl;unfold addc;dsimp only;rw[nd_upd_ne (by simp;omega) h2];exact nd_app hi
def low(m:Model):Nat->Nat->Prop
 |0,_=>False
 |n+1,h=>∀c,c∈(nd m h).kids->low m n c
theorem low_same{B:Nat}{m m':Model}(hL:Low B m)(hk:∀i,i<B->nd m' i=nd m i):∀{n h:Nat},h<B->low m n h->low m' n h
 |0,_,_,h=>h.elim
 |n+1,h,hh,hw=>fun c hc=>by
  rw[hk h hh]at hc;exact low_same hL hk (hL h hh c hc) (hw c hc)
theorem WF.low{m:Model}(W:WF m):∀(n h:Nat),129<=depth m h+n->G.low m n h
 |0,h,hn=>by have:=W.depth_le h;omega
 |n+1,h,hn=>fun c hc=>WF.low W n c (by have:=W.depth_step (W.kid h c hc).2;omega)
theorem copyN_keep:∀(n:Nat) (m:Model) (h:Nat) (par:Option Nat) (deep:Bool) (B:Nat),B<=m.length->Low B m->h<B->(∀q,par=some q->q<m.length/\B<=q) →
  m.length<=(copyN n m h par deep).length/\(∀i,i<B->nd (copyN n m h par deep) i=nd m i)
 |0,m,h,par,deep,B,hB,hL,hh,hq=>⟨Nat.le_refl _,fun i hi=>rfl⟩
 |n+1,m,h,par,deep,B,hB,hL,hh,hq=>by
  have h1:∀i,i<B->nd (addc m (bare (nd m h)) par) i=nd m i:=fun i hi=>nd_addc (by omega) (fun q hq'=>⟨(hq q hq').1,by have:=(hq q hq').2;omega⟩);have hl:=addc_len m (bare (nd m h)) par;rw[copyN]
  cases deep with
  |false=>exact⟨by simp only[Bool.false_eq_true,if_false];omega,fun i hi=>by simp only[Bool.false_eq_true,if_false];exact h1 i hi⟩
  |true=>
   simp only [if_true]; have hf : ∀ (l : List Nat) (m' : Model), (∀ c ∈ l, c < B) → m.length + 1 ≤ m'.length → (∀ i, i < B → nd m' i = nd m i) →
     m'.length<=(l.foldl (fun m' c=>copyN n m' c (some m.length) true) m').length/\∀i,i<B->nd (l.foldl (fun m' c=>copyN n m' c (some m.length) true) m') i=nd m i:=by
    intro l
    induction l with
    |nil=>exact fun m' _ _ h=>⟨Nat.le_refl _,h⟩
    |cons c t ih=>
     intro m' hc hm' hk;obtain⟨a1,a2⟩:=copyN_keep n m' c (some m.length) true B (by omega) (fun i hi c hc=>by rw[hk i hi]at hc;exact hL i hi c hc) (hc c (by simp)) (fun q hq'=>by injection hq' with e;subst e;exact⟨by omega,hB⟩);obtain⟨b1,b2⟩:=ih (copyN n m' c (some m.length) true) (fun d hd=>hc d (by simp[hd])) (by omega) (fun i hi=>(a2 i hi).trans (hk i hi));exact⟨by rw[List.foldl_cons];omega,by rw[List.foldl_cons];exact b2⟩
   obtain⟨c1,c2⟩:=hf (nd m h).kids (addc m (bare (nd m h)) par) (fun c hc=>hL h hh c hc) (by omega) h1;exact⟨by omega,c2⟩
theorem nd_put_low{B:Nat}{m:Model}{p k L i:Nat}(hp:p<m.length)(hk:k<m.length)(hpB:B<=p)(hkB:B<=k)(hi:i<B):nd (put m p k L) i=nd m i:=by
 rw[nd_put hk hp,if_neg (by omega),if_neg (by omega)]
theorem copyN_put:∀(n:Nat) (m:Model) (h:Nat) (par:Option Nat) (deep:Bool) (B p k L:Nat),B<=m.length->Low B m->h<B->B<=p->B<=k->p<m.length->k<m.length->(∀q,par=some q->q<m.length/\B<=q/\q≠p) →
  copyN n (put m p k L) h par deep=put (copyN n m h par deep) p k L
 |0,m,h,par,deep,B,p,k,L,hB,hL,hh,hpB,hkB,hp,hk,hq=>rfl
 |n+1,m,h,par,deep,B,p,k,L,hB,hL,hh,hpB,hkB,hp,hk,hq=>by
  have e1:nd (put m p k L) h=nd m h:=nd_put_low hp hk hpB hkB hh;have hl:=addc_len m (bare (nd m h)) par;rw[copyN,copyN,e1,put_len,put_addc hp hk (fun q hq'=>⟨(hq q hq').1,(hq q hq').2.2⟩)]
  cases deep with
  |false=>rfl
  |true=>
   simp only [if_true]; have hf : ∀ (l : List Nat) (m' : Model), (∀ c ∈ l, c < B) → m.length + 1 ≤ m'.length → Low B m' →
     l.foldl (fun m' c=>copyN n m' c (some m.length) true) (put m' p k L)=put (l.foldl (fun m' c=>copyN n m' c (some m.length) true) m') p k L:=by
    intro l
    induction l with
    |nil=>exact fun m' _ _ _=>rfl
    |cons c t ih=>
     intro m' hc hm' hL';have hqq:∀q,some m.length=some q->q<m'.length/\B<=q:=fun q hq'=>by injection hq' with e;subst e;exact⟨by omega,hB⟩
     obtain⟨a1,a2⟩:=copyN_keep n m' c (some m.length) true B (by omega) hL' (hc c (by simp)) hqq;rw[List.foldl_cons,List.foldl_cons,copyN_put n m' c (some m.length) true B p k L (by omega) hL' (hc c (by simp)) hpB hkB (by omega) (by omega) (fun q hq'=>⟨(hqq q hq').1,(hqq q hq').2,by injection hq' with e;omega⟩)];exact ih _ (fun d hd=>hc d (by simp[hd])) (by omega) (fun i hi c hc=>by rw[a2 i hi]at hc;exact hL' i hi c hc)
   refine hf _ _ (fun c hc=>hL h hh c hc) (by omega) (fun i hi c hc=>?_);rw[nd_addc (by omega) (fun q hq'=>⟨(hq q hq').1,by have:=(hq q hq').2.1;omega⟩)]at hc;exact hL i hi c hc
theorem copyN_self:∀(n:Nat) (m:Model) (h:Nat) (deep:Bool) (B k:Nat),B<=m.length->Low B m->h<B->B<=k->k<m.length->(nd (copyN n m h none deep) k).kids=(nd m k).kids:=by
 have key:∀(n:Nat) (m:Model) (h:Nat) (par:Option Nat) (deep:Bool) (B k:Nat),B<=m.length->Low B m->h<B->B<=k->k<m.length->(∀q,par=some q->q<m.length/\B<=q/\q≠k)->(nd (copyN n m h par deep) k).kids=(nd m k).kids:=by
  intro n
  induction n with
  |zero=>intros;rfl
  |succ n ihn=>
   intro m h par deep B k hB hL hh hkB hk hq;have e1:nd (addc m (bare (nd m h)) par) k=nd m k:=nd_addc hk (fun q hq'=>⟨(hq q hq').1,fun e=>(hq q hq').2.2 e.symm⟩);have hl:=addc_len m (bare (nd m h)) par;rw[copyN]
   cases deep with
   |false=>simp only[Bool.false_eq_true,if_false];rw[e1]
   |true=>
    simp only [if_true]; have hf : ∀ (l : List Nat) (m' : Model), (∀ c ∈ l, c < B) → m.length + 1 ≤ m'.length → Low B m' →
      (nd (l.foldl (fun m' c=>copyN n m' c (some m.length) true) m') k).kids=(nd m' k).kids:=by
     intro l
     induction l with
     |nil=>exact fun m' _ _ _=>rfl
     |cons c t ih=>
      intro m' hc hm' hL';have hqq:∀q,some m.length=some q->q<m'.length/\B<=q:=fun q hq'=>by injection hq' with e;subst e;exact⟨by omega,hB⟩
      obtain⟨a1,a2⟩:=copyN_keep n m' c (some m.length) true B (by omega) hL' (hc c (by simp)) hqq;rw[List.foldl_cons,ih _ (fun d hd=>hc d (by simp[hd])) (by omega) (fun i hi c hc=>by rw[a2 i hi]at hc;exact hL' i hi c hc)];exact ihn m' c (some m.length) true B k (by omega) hL' (hc c (by simp)) hkB (by omega) (fun q hq'=>⟨(hqq q hq').1,(hqq q hq').2,by injection hq' with e;omega⟩)
    rw[hf _ _ (fun c hc=>hL h hh c hc) (by omega) (fun i hi c hc=>by
     rw[nd_addc (by omega) (fun q hq'=>⟨(hq q hq').1,by have:=(hq q hq').2.1;omega⟩)]at hc;exact hL i hi c hc),e1]
 exact fun n m h deep B k hB hL hh hkB hk=>key n m h none deep B k hB hL hh hkB hk (fun q hq=>by cases hq)
theorem copyN_some(n:Nat)(m:Model)(h p:Nat)(deep:Bool)(B:Nat)(hn:0<n)(hB:B<=m.length)(hL:Low B m)(hh:h<B)(hpB:B<=p)(hp:p<m.length) :
  copyN n m h (some p) deep=put (copyN n m h none deep) p m.length (nd m p).kids.length:=by
 cases n with
 |zero=>omega
 |succ n=>
  have hl:=addc_len m (bare (nd m h)) none;rw[copyN,copyN,addc_put hp]
  cases deep with
  |false=>rfl
  |true=>
   simp only [if_true]; have hf : ∀ (l : List Nat) (m' : Model), (∀ c ∈ l, c < B) → m.length + 1 ≤ m'.length → Low B m' →
     l.foldl (fun m' c=>copyN n m' c (some m.length) true) (put m' p m.length (nd m p).kids.length)=put (l.foldl (fun m' c=>copyN n m' c (some m.length) true) m') p m.length (nd m p).kids.length:=by
    intro l
    induction l with
    |nil=>exact fun m' _ _ _=>rfl
    |cons c t ih=>
     intro m' hc hm' hL';have hqq:∀q,some m.length=some q->q<m'.length/\B<=q:=fun q hq'=>by injection hq' with e;subst e;exact⟨by omega,hB⟩
     obtain⟨a1,a2⟩:=copyN_keep n m' c (some m.length) true B (by omega) hL' (hc c (by simp)) hqq;rw[List.foldl_cons,List.foldl_cons,copyN_put n m' c (some m.length) true B p m.length _ (by omega) hL' (hc c (by simp)) hpB hB (by omega) (by omega) (fun q hq'=>⟨(hqq q hq').1,(hqq q hq').2,by injection hq' with e;omega⟩)];exact ih _ (fun d hd=>hc d (by simp[hd])) (by omega) (fun i hi c hc=>by rw[a2 i hi]at hc;exact hL' i hi c hc)
   refine hf _ _ (fun c hc=>hL h hh c hc) (by omega) (fun i hi c hc=>?_);rw[nd_addc (by omega) (fun q hq'=>by cases hq')]at hc;exact hL i hi c hc
theorem copyT_eq:∀(n:Nat) (m:Model) (h:Nat) (deep:Bool) (B:Nat),B<=m.length->Low B m->h<B->low m n h->copyT n m h deep=copyN n m h none deep
 |0,m,h,deep,B,hB,hL,hh,hw=>rfl
 |n+1,m,h,deep,B,hB,hL,hh,hw=>by
  rw[copyT,copyN]
  cases deep with
  |false=>rfl
  |true=>
   simp only [if_true]; have hl := addc_len m (bare (nd m h)) none; have hf : ∀ (l : List Nat) (m' : Model), (∀ c ∈ l, c < B ∧ low m n c) → m.length + 1 ≤ m'.length → (∀ i, i < B → nd m' i = nd m i) →
     l.foldl (fun m' c=>put (copyT n m' c true) m.length m'.length (nd (copyT n m' c true) m.length).kids.length) m'=l.foldl (fun m' c=>copyN n m' c (some m.length) true) m':=by
    intro l
    induction l with
    |nil=>exact fun m' _ _ _=>rfl
    |cons c t ih=>
     intro m' hc hm' hk;have hL':Low B m':=fun i hi c hc=>by rw[hk i hi]at hc;exact hL i hi c hc
     obtain⟨hcB,hcw⟩:=hc c (by simp);have hcw':low m' n c:=low_same hL hk hcB hcw;have hn:0<n:=by
      cases n with
      |zero=>exact hcw.elim
      |succ n=>omega
     have hqq:∀q,some m.length=some q->q<m'.length/\B<=q:=fun q hq'=>by injection hq' with e;subst e;exact⟨by omega,hB⟩
     have hT:=copyT_eq n m' c true B (by omega) hL' hcB hcw';have hkl:(nd (copyN n m' c none true) m.length).kids=(nd m' m.length).kids:=copyN_self n m' c true B m.length (by omega) hL' hcB hB (by omega);obtain⟨a1,a2⟩:=copyN_keep n m' c (some m.length) true B (by omega) hL' hcB hqq;rw[List.foldl_cons,List.foldl_cons,hT,hkl,<-copyN_some n m' c m.length true B hn (by omega) hL' hcB hB (by omega)];exact ih _ (fun d hd=>hc d (by simp[hd])) (by omega) (fun i hi=>(a2 i hi).trans (hk i hi))
   exact hf _ _ (fun c hc=>⟨hL h hh c hc,hw c hc⟩) (by rw[<-hl];exact Nat.le_refl _) (fun i hi=>nd_app (by omega))
def cmpL:List Nat->List Nat->Int
 |[],[]=>0
 |[],_ :: _=>-1
 |_ :: _,[]=>1
 |a :: x,b :: y=>if a<b then -1 else if b<a then 1 else cmpL x y
theorem cmpL_self:∀l,cmpL l l=0
 |[]=>rfl
 |a :: l=>by rw[cmpL,if_neg (Nat.lt_irrefl _),if_neg (Nat.lt_irrefl _)];exact cmpL_self l
theorem cmpL_pre(p x y:List Nat):cmpL (p++x) (p++y)=cmpL x y:=by
 induction p with
 |nil=>rfl
 |cons a p ih=>rw[List.cons_append,List.cons_append,cmpL,if_neg (Nat.lt_irrefl _),if_neg (Nat.lt_irrefl _),ih]
theorem cmpL_neg:∀x y,cmpL y x=- cmpL x y
 |[],[]=>rfl
 |[],_ :: _=>rfl
 |_ :: _,[]=>rfl
 |a :: x,b :: y=>by
  rw[cmpL,cmpL,cmpL_neg x y]
  by_cases h1:a<b
  ·have h2:¬b<a:=by omega
   simp[h1,h2]
  ·by_cases h2:b<a
   ·simp[h1,h2]
   ·simp[h1,h2]
theorem cmpL_eq:∀{x y},cmpL x y=0->x=y
 |[],[],_=>rfl
 |[],_ :: _,h=>by cases h
 |_ :: _,[],h=>by cases h
 |a :: x,b :: y,h=>by
  rw[cmpL]at h
  split at h
  ·cases h
  ·split at h
   ·cases h
   ·have:=cmpL_eq h
    subst this;have:a=b:=by omega
    subst this;rfl
theorem cmpL_range:∀x y,cmpL x y=-1\/cmpL x y=0\/cmpL x y=1
 |[],[]=>Or.inr (Or.inl rfl)
 |[],_ :: _=>Or.inl rfl
 |_ :: _,[]=>Or.inr (Or.inr rfl)
 |a :: x,b :: y=>by
  rw[cmpL]
  split
  ·exact Or.inl rfl
  ·split
   ·exact Or.inr (Or.inr rfl)
   ·exact cmpL_range x y
theorem cmpL_map{f:Nat->Nat}(hf:∀a b,a<b->f a<f b):∀x y,cmpL (x.map f) (y.map f)=cmpL x y
 |[],[]=>rfl
 |[],_ :: _=>rfl
 |_ :: _,[]=>rfl
 |a :: x,b :: y=>by
  rw[List.map_cons,List.map_cons,cmpL,cmpL,cmpL_map hf x y]
  by_cases h1:a<b
  ·rw[if_pos h1,if_pos (hf _ _ h1)]
  ·by_cases h2:b<a
   ·have h3:=hf _ _ h2
    rw[if_neg (by omega),if_pos h3,if_neg h1,if_pos h2]
   ·have e:a=b:=by omega
    subst e;rw[if_neg (Nat.lt_irrefl _),if_neg (Nat.lt_irrefl _),if_neg h1,if_neg h2]
theorem cmpL_app:∀(x y s t:List Nat),¬x <+: y->¬y <+: x->cmpL (x++s) (y++t)=cmpL x y
 |[],_,_,_,h,_=>absurd (List.nil_prefix) h
 |_ :: _,[],_,_,_,h=>absurd (List.nil_prefix) h
 |a :: x,b :: y,s,t,h1,h2=>by
  rw[List.cons_append,List.cons_append,cmpL,cmpL]
  by_cases e:a=b
  ·subst e
   rw[if_neg (Nat.lt_irrefl _),if_neg (Nat.lt_irrefl _),if_neg (Nat.lt_irrefl _),if_neg (Nat.lt_irrefl _)];exact cmpL_app x y s t (fun h=>h1 ((List.prefix_cons_inj a).2 h)) (fun h=>h2 ((List.prefix_cons_inj a).2 h))
  ·by_cases h3:a<b
   ·rw[if_pos h3,if_pos h3]
   ·rw[if_neg h3,if_neg h3,if_pos (by omega),if_pos (by omega)]
theorem at_idx{x:Nat}:∀{l:List Nat},x∈l->l[l.idxOf x]?=some x
 |[],h=>by cases h
 |a :: l,h=>by
  rw[List.idxOf_cons]
  by_cases e:a=x
  ·subst e;simp
  ·have h2:x∈l:=by
    rcases List.mem_cons.1 h with h|h
    ·exact absurd h.symm e
    ·exact h
   have e2:(a==x)=false:=beq_eq_false_iff_ne.2 e;rw[e2];simpa using at_idx h2
def pidxN(m:Model):Nat->Nat->List Nat
 |0,_=>[]
 |n+1,h=>match (nd m h).parent with|none=>[]|some p=>pidxN m n p++[(nd m p).kids.idxOf h]
def pidx(m:Model)(h:Nat):List Nat:=pidxN m 128 h
theorem pidx_more{m:Model}:∀{n k h:Nat},ends m n h->n<=k->pidxN m k h=pidxN m n h
 |0,_,_,h,_=>h.elim
 |n+1,0,_,_,hk=>by omega
 |n+1,k+1,h,he,hk=>by
  rw[pidxN,pidxN]
  cases hp:(nd m h).parent with
  |none=>rfl
  |some p=>dsimp only;rw[pidx_more ((ends_step hp).1 he) (by omega)]
theorem pidx_root{m:Model}{h:Nat}(hp:(nd m h).parent=none):pidx m h=[]:=by
 show pidxN m (127+1) h=_;rw[pidxN,hp]
theorem WF.pidx_step{m:Model}(W:WF m){h p:Nat}(hp:(nd m h).parent=some p):pidx m h=pidx m p++[(nd m p).kids.idxOf h]:=by
 have h3:G.ends m 127 p:=(ends_step hp).1 (W.ends h (W.lt hp).1);have e:pidxN m (127+1) h=pidxN m 127 p++[(nd m p).kids.idxOf h]:=by rw[pidxN,hp]
 refine Eq.trans e ?_;rw[<-pidx_more h3 (by omega:127<=128)];rfl
theorem WF.pidx_inj{m:Model}(W:WF m)(a:Nat):∀b,top m a=top m b->pidx m a=pidx m b->a=b:=by
 refine W.up_ind (P:=fun a=>∀b,top m a=top m b->pidx m a=pidx m b->a=b) (fun a ha b ht hp=>?_) (fun a p ha ih b ht hp=>?_) a
 ·rw[pidx_root ha]at hp
  cases hb:(nd m b).parent with
  |none=>rw[W.top_root ha,W.top_root hb]at ht;exact ht
  |some q=>rw[W.pidx_step hb]at hp;exact absurd hp.symm (by simp)
 ·cases hb:(nd m b).parent with
  |none=>rw[W.pidx_step ha,pidx_root hb]at hp;exact absurd hp (by simp)
  |some q=>
   rw[W.pidx_step ha,W.pidx_step hb]at hp;obtain⟨e1,e2⟩:=List.append_inj' hp rfl;have hpq:p=q:=ih q (by rw[W.top_step ha,W.top_step hb]at ht;exact ht) e1;subst hpq;injection e2 with e2
   have h1:=(W.par a p ha).2;have h2:=(W.par b p hb).2;have g1:(nd m p).kids[(nd m p).kids.idxOf a]?=some a:=at_idx h1;have g2:(nd m p).kids[(nd m p).kids.idxOf b]?=some b:=at_idx h2;rw[e2,g2]at g1;injection g1 with g1
   exact g1.symm
theorem WF.pidx_contains{m:Model}(W:WF m){a:Nat}(b:Nat)(h:contains m a b=true):pidx m a <+: pidx m b/\top m a=top m b:=by
 revert h
 refine W.up_ind (P:=fun b=>contains m a b=true->pidx m a <+: pidx m b/\top m a=top m b) (fun b hb h=>?_) (fun b p hb ih h=>?_) b
 ·rw[W.contains_root hb]at h
  have e:=beq_iff_eq.1 h;subst e;exact⟨List.prefix_rfl,rfl⟩
 ·rw[W.contains_step hb]at h
  rcases Bool.or_eq_true_iff.1 h with h|h
  ·have e:=beq_iff_eq.1 h
   subst e;exact⟨List.prefix_rfl,rfl⟩
  ·obtain⟨h1,h2⟩:=ih h
   exact⟨h1.trans (by rw[W.pidx_step hb];exact List.prefix_append _ _),by rw[h2,W.top_step hb]⟩
theorem WF.contains_pidx{m:Model}(W:WF m){a:Nat}(b:Nat):top m a=top m b->pidx m a <+: pidx m b->contains m a b=true:=by
 refine W.up_ind (P:=fun b=>top m a=top m b->pidx m a <+: pidx m b->contains m a b=true) (fun b hb ht h=>?_) (fun b p hb ih ht h=>?_) b
 ·rw[pidx_root hb]at h
  have e:=W.pidx_inj a b ht (by rw[pidx_root hb];exact List.prefix_nil.1 h);subst e;exact W.contains_self a
 ·rw[W.contains_step hb,Bool.or_eq_true_iff]
  rw[W.pidx_step hb]at h
  rcases List.prefix_concat_iff.1 h with h|h
  ·left
   exact beq_iff_eq.2 (W.pidx_inj a b ht (by rw[h,W.pidx_step hb]))
  ·right
   exact ih (by rw[ht,W.top_step hb]) h
def sizeOf(m:Model)(h:Nat):Nat:=if 2<(nd m h).kind then(U.pts (nd m h).data).length else(nd m h).kids.length
def allN(m:Model):Nat->Nat->List (Nat×Nat)
 |0,_=>[]
 |n+1,h=>(List.range (sizeOf m h+1)).flatMap fun i=>(h,i) :: (if 2<(nd m h).kind then[]else match (nd m h).kids[i]? with|some c=>allN m n c|none=>[])
def all(m:Model)(h:Nat):List (Nat×Nat):=allN m 128 h
def inside(m:Model)(f:Nat->List (Nat×Nat))(h i:Nat):List (Nat×Nat):=if 2<(nd m h).kind then[]else match (nd m h).kids[i]? with|some c=>f c|none=>[]
theorem WF.all_enough{m:Model}(W:WF m):∀(n k h:Nat),129<=depth m h+n->129<=depth m h+k->allN m n h=allN m k h
 |0,_,h,hn,_=>by have:=W.depth_le h;omega
 |_,0,h,_,hk=>by have:=W.depth_le h;omega
 |n+1,k+1,h,hn,hk=>by
  rw[allN,allN];refine flat_congr fun i _=>?_
  cases hc:(nd m h).kids[i]? with
  |none=>rfl
  |some c=>
   dsimp only;have h1:=W.depth_step (W.kid h c (List.mem_of_getElem? hc)).2;rw[WF.all_enough W n k c (by omega) (by omega)]
theorem WF.all_eq{m:Model}(W:WF m)(h:Nat):all m h=(List.range (sizeOf m h+1)).flatMap fun i=>(h,i) :: inside m (all m) h i:=by
 have e:allN m (127+1) h=(List.range (sizeOf m h+1)).flatMap fun i=>(h,i) :: inside m (allN m 127) h i:=by rw[allN];rfl
 refine Eq.trans e (flat_congr fun i _=>?_);unfold inside
 cases hc:(nd m h).kids[i]? with
 |none=>rfl
 |some c=>
  dsimp only;have h1:=W.depth_step (W.kid h c (List.mem_of_getElem? hc)).2;have h2:=W.depth_pos h;rw[W.all_enough 127 128 c (by omega) (by omega)];rfl
def odd(i:Nat):Nat:=2*i+1
def pcode(m:Model)(p:Nat×Nat):List Nat:=(pidx m p.1).map odd++[2*p.2]
def PtOk(m:Model)(p:Nat×Nat):Prop:=p.1<m.length/\p.2<=sizeOf m p.1
theorem WF.mem_all{m:Model}(W:WF m){q:Nat×Nat}(h:Nat)(hl:h<m.length):q∈all m h↔contains m h q.1=true/\PtOk m q:=by
 constructor
 ·revert hl
  refine W.down_ind (P:=fun h=>h<m.length->q∈all m h->contains m h q.1=true/\PtOk m q) (fun h ih hl hq=>?_) h;rw[W.all_eq]at hq;obtain⟨i,hi,hq⟩:=List.mem_flatMap.1 hq
  rcases List.mem_cons.1 hq with e|hq
  ·subst e
   exact⟨W.contains_self h,hl,by have:=List.mem_range.1 hi;show i<=sizeOf m h;omega⟩
  ·unfold inside at hq
   split at hq
   ·cases hq
   ·cases hc:(nd m h).kids[i]? with
    |none=>rw[hc]at hq;cases hq
    |some c=>
     rw[hc]at hq;have hm:=List.mem_of_getElem? hc;obtain⟨h1,h2⟩:=ih c hm (W.kid h c hm).1 hq;refine⟨?_,h2⟩;have key:∀x,contains m c x=true->contains m h x=true:=by
      intro x;refine W.up_ind (P:=fun x=>contains m c x=true->contains m h x=true) (fun x hx hcx=>?_) (fun x p hx ih hcx=>?_) x
      ·rw[W.contains_root hx]at hcx
       have e:=beq_iff_eq.1 hcx;subst e;rw[(W.kid h c hm).2]at hx
       cases hx
      ·rw[W.contains_step hx]at hcx ⊢
       rcases Bool.or_eq_true_iff.1 hcx with h3|h3
       ·have e:=beq_iff_eq.1 h3
        subst e;have e2:p=h:=by rw[(W.kid h c hm).2]at hx;injection hx with hx;exact hx.symm
        subst e2;rw[W.contains_self,Bool.or_true]
       ·rw[ih h3,Bool.or_true]
     exact key _ h1
 ·rintro⟨hc,hq⟩
  -- by steps up from the point's node
  have own:∀x,x<m.length->∀i,i<=sizeOf m x->(x,i)∈all m x:=fun x hx i hi=>by
   rw[W.all_eq];exact List.mem_flatMap.2 ⟨i,List.mem_range.2 (by omega),List.mem_cons_self ..⟩
  have step:∀x p,(nd m x).parent=some p->∀y,y∈all m x->y∈all m p:=fun x p hx y hy=>by
   have hm:=(W.par x p hx).2;have g1:(nd m p).kids[(nd m p).kids.idxOf x]?=some x:=at_idx hm;have hk:¬2<(nd m p).kind:=fun h2=>by rw[W.leaf p (by omega)]at hm;cases hm
   have hlt:=List.idxOf_lt_length_of_mem hm;rw[W.all_eq];refine List.mem_flatMap.2 ⟨(nd m p).kids.idxOf x,List.mem_range.2 (by unfold sizeOf;rw[if_neg hk];omega),List.mem_cons_of_mem _ ?_⟩;unfold inside;rw[if_neg hk,g1];exact hy
  have key:∀x,contains m h x=true->∀y,y∈all m x->y∈all m h:=by
   intro x;refine W.up_ind (P:=fun x=>contains m h x=true->∀y,y∈all m x->y∈all m h) (fun x hx hcx y hy=>?_) (fun x p hx ih hcx y hy=>?_) x
   ·rw[W.contains_root hx]at hcx
    have e:=beq_iff_eq.1 hcx;subst e;exact hy
   ·rw[W.contains_step hx]at hcx
    rcases Bool.or_eq_true_iff.1 hcx with h3|h3
    ·have e:=beq_iff_eq.1 h3
     subst e;exact hy
    ·exact ih h3 y (step x p hx y hy)
  exact key q.1 hc q (own q.1 hq.1 q.2 hq.2)
end G
end
section
open Go.RowKit
namespace H
def Blk(g:Nat)(cs:Array Value)(t:TypeId)(w:World):Prop:=w.heap[g]?=some (.cells cs t (0,0))
section
variable {g b:Nat} {cs:Array Value} {t:TypeId} {w w':World}
theorem Blk.lt(h:Blk g cs t w):g<w.heap.size:=lt_of_block h
theorem Blk.below(h:Blk g cs t w)(hb:Below w.heap.size w w'):Blk g cs t w':=(hb.block g (lt_of_block h)).trans h
theorem Blk.set(h:Blk g cs t w)(o:Nat)(v:Value):Blk g (cs.setIfInBounds o v) t (w.setCell ⟨g,o,none⟩ v):=block_set h
theorem Blk.far(h:Blk g cs t w){k:Nat}(hne:g≠k)(o:Nat)(v:Value):Blk g cs t (w.setCell ⟨k,o,none⟩ v):=(Below.heap_setCell w ⟨k,o,none⟩ v g hne).trans h
theorem Blk.new(w:World)(cs:Array Value)(t:TypeId):Blk w.heap.size cs t (w.alloc (.cells cs t)):=heap_alloc_new w _
theorem Blk.alloc(h:Blk g cs t w)(o:Obj):Blk g cs t (w.alloc o):=(Below.heap_alloc w o g (lt_of_block h)).trans h
end
end H
end
section
open Go.RowKit
namespace T
theorem sz_at(l:List UInt8)(k:Nat):U.sz (l.drop k) =
  if U.rng l k 0 127 then 1
  else if U.rng l k 194 223 && tl l (k+1) 1 then 2
  else if U.rng l k 224 239 && (U.second (l.drop k) && tl l (k+2) 1)then 3
  else if U.rng l k 240 244 && (U.second (l.drop k) && tl l (k+2) 2)then 4
  else 0:=by
 unfold U.sz;simp only[rng_drop,Nat.add_zero,tl,Bool.true_and]
theorem rng_other{l:List UInt8}{k lo hi lo' hi':Nat}(h:U.rng l k lo hi=true)(hd:hi<lo'):U.rng l k lo' hi'=false:=by
 rw[Bool.eq_false_iff];intro e;rw[U.rng_iff]at h e;omega
theorem rng_lt{s:ByteArray}{k lo hi:Nat}(h:U.rng s.data.toList k lo hi=true):k<s.size:=by
 rw[U.rng_iff]at h;simpa using h.1
theorem size0(s:ByteArray)(k:Nat)(w:World)(hs:s.size<=140737488351232)(hk:k<=s.size)(e0:U.rng s.data.toList k 0 127=true) :
  Calls Tryz.prog 105 #[.string s,.int .i64 k] w fun e w'=>e=.returned (.int .i64 1)/\w=w':=by
 have c0:=fun W=>refIn s (k:Int) 0 127 W hs (by omega);rw[Int.toNat_natCast,e0]at c0;have C0:=hi_ c0;clear c0 e0
 go_enter Tryz.func105,Tryz.ntmps105
 go_wp2_with fail
 refine(C0.out _).mono ?_;rintro e w' ⟨rfl,rfl⟩;go_wp2_with fail
 go_ret
 exact⟨rfl,rfl⟩
theorem size1(s:ByteArray)(k:Nat)(w:World)(hs:s.size<=140737488351232)(hk:k<=s.size)(e0:U.rng s.data.toList k 0 127=false)(e1:U.rng s.data.toList k 194 223=true)(e2:tl s.data.toList (k+1) 1=true) :
  Calls Tryz.prog 105 #[.string s,.int .i64 k] w fun e w'=>e=.returned (.int .i64 2)/\w=w':=by
 have c0:=fun W=>refIn s (k:Int) 0 127 W hs (by omega);rw[Int.toNat_natCast,e0]at c0;have c1:=fun W=>refIn s (k:Int) 194 223 W hs (by omega);rw[Int.toNat_natCast,e1]at c1;have c2:=fun W=>refTail s ((k:Int)+1) 1 W hs (by omega) (by omega) (by omega);rw[show((k:Int)+1).toNat=k+1 from by omega,e2]at c2;have C0:=hi_ c0;have C1:=hi_ c1;have C2:=hi_ c2;clear c2 e2 c1 e1 c0 e0
 go_enter Tryz.func105,Tryz.ntmps105
 go_wp2_with fail
 refine(C0.out _).mono ?_;rintro e w' ⟨rfl,rfl⟩;go_wp2_with fail
 refine(C1.out _).mono ?_;rintro e w' ⟨rfl,rfl⟩;go_wp2_with fail
 refine(C2.out _).mono ?_;rintro e w' ⟨rfl,rfl⟩;go_wp2_with fail
 go_ret
 exact⟨rfl,rfl⟩
theorem size2(s:ByteArray)(k:Nat)(w:World)(hs:s.size<=140737488351232)(hk:k<=s.size)(e0:U.rng s.data.toList k 0 127=false)(e1:U.rng s.data.toList k 194 223=true)(e2:tl s.data.toList (k+1) 1=false)(e3:U.rng s.data.toList k 224 239=false)(e4:U.rng s.data.toList k 240 244=false) :
  Calls Tryz.prog 105 #[.string s,.int .i64 k] w fun e w'=>e=.returned (.int .i64 0)/\w=w':=by
 have c0:=fun W=>refIn s (k:Int) 0 127 W hs (by omega);rw[Int.toNat_natCast,e0]at c0;have c1:=fun W=>refIn s (k:Int) 194 223 W hs (by omega);rw[Int.toNat_natCast,e1]at c1;have c2:=fun W=>refTail s ((k:Int)+1) 1 W hs (by omega) (by omega) (by omega);rw[show((k:Int)+1).toNat=k+1 from by omega,e2]at c2;have c3:=fun W=>refIn s (k:Int) 224 239 W hs (by omega);rw[Int.toNat_natCast,e3]at c3;have c4:=fun W=>refIn s (k:Int) 240 244 W hs (by omega);rw[Int.toNat_natCast,e4]at c4;have C0:=hi_ c0;have C1:=hi_ c1;have C2:=hi_ c2;have C3:=hi_ c3;have C4:=hi_ c4;clear c4 e4 c3 e3 c2 e2 c1 e1 c0 e0
 go_enter Tryz.func105,Tryz.ntmps105
 go_wp2_with fail
 refine(C0.out _).mono ?_;rintro e w' ⟨rfl,rfl⟩;go_wp2_with fail
 refine(C1.out _).mono ?_;rintro e w' ⟨rfl,rfl⟩;go_wp2_with fail
 refine(C2.out _).mono ?_;rintro e w' ⟨rfl,rfl⟩;go_wp2_with fail
 refine(C3.out _).mono ?_;rintro e w' ⟨rfl,rfl⟩;go_wp2_with fail
 refine(C4.out _).mono ?_;rintro e w' ⟨rfl,rfl⟩;go_wp2_with fail
 go_ret
 exact⟨rfl,rfl⟩
theorem size3(s:ByteArray)(k:Nat)(w:World)(hs:s.size<=140737488351232)(hk:k<=s.size)(e0:U.rng s.data.toList k 0 127=false)(e1:U.rng s.data.toList k 194 223=false)(e2:U.rng s.data.toList k 224 239=true)(e3:U.second (s.data.toList.drop k)=true)(e4:tl s.data.toList (k+2) 1=true) :
  Calls Tryz.prog 105 #[.string s,.int .i64 k] w fun e w'=>e=.returned (.int .i64 3)/\w=w':=by
 have c0:=fun W=>refIn s (k:Int) 0 127 W hs (by omega);rw[Int.toNat_natCast,e0]at c0;have c1:=fun W=>refIn s (k:Int) 194 223 W hs (by omega);rw[Int.toNat_natCast,e1]at c1;have c2:=fun W=>refIn s (k:Int) 224 239 W hs (by omega);rw[Int.toNat_natCast,e2]at c2;have c3:=fun W=>refSecond s (k:Int) W hs (by omega) (by have:=rng_lt e2;omega);rw[Int.toNat_natCast,e3]at c3;have c4:=fun W=>refTail s ((k:Int)+2) 1 W hs (by omega) (by omega) (by omega);rw[show((k:Int)+2).toNat=k+2 from by omega,e4]at c4;have C0:=hi_ c0;have C1:=hi_ c1;have C2:=hi_ c2;have C3:=hi_ c3;have C4:=hi_ c4;clear c4 e4 c3 e3 c2 e2 c1 e1 c0 e0
 go_enter Tryz.func105,Tryz.ntmps105
 go_wp2_with fail
 refine(C0.out _).mono ?_;rintro e w' ⟨rfl,rfl⟩;go_wp2_with fail
 refine(C1.out _).mono ?_;rintro e w' ⟨rfl,rfl⟩;go_wp2_with fail
 refine(C2.out _).mono ?_;rintro e w' ⟨rfl,rfl⟩;go_wp2_with fail
 refine(C3.out _).mono ?_;rintro e w' ⟨rfl,rfl⟩;go_wp2_with fail
 refine(C4.out _).mono ?_;rintro e w' ⟨rfl,rfl⟩;go_wp2_with fail
 go_ret
 exact⟨rfl,rfl⟩
theorem size4(s:ByteArray)(k:Nat)(w:World)(hs:s.size<=140737488351232)(hk:k<=s.size)(e0:U.rng s.data.toList k 0 127=false)(e1:U.rng s.data.toList k 194 223=false)(e2:U.rng s.data.toList k 224 239=true)(e3:U.second (s.data.toList.drop k)=true)(e4:tl s.data.toList (k+2) 1=false)(e5:U.rng s.data.toList k 240 244=false) :
  Calls Tryz.prog 105 #[.string s,.int .i64 k] w fun e w'=>e=.returned (.int .i64 0)/\w=w':=by
 have c0:=fun W=>refIn s (k:Int) 0 127 W hs (by omega);rw[Int.toNat_natCast,e0]at c0;have c1:=fun W=>refIn s (k:Int) 194 223 W hs (by omega);rw[Int.toNat_natCast,e1]at c1;have c2:=fun W=>refIn s (k:Int) 224 239 W hs (by omega);rw[Int.toNat_natCast,e2]at c2;have c3:=fun W=>refSecond s (k:Int) W hs (by omega) (by have:=rng_lt e2;omega);rw[Int.toNat_natCast,e3]at c3;have c4:=fun W=>refTail s ((k:Int)+2) 1 W hs (by omega) (by omega) (by omega);rw[show((k:Int)+2).toNat=k+2 from by omega,e4]at c4;have c5:=fun W=>refIn s (k:Int) 240 244 W hs (by omega);rw[Int.toNat_natCast,e5]at c5;have C0:=hi_ c0;have C1:=hi_ c1;have C2:=hi_ c2;have C3:=hi_ c3;have C4:=hi_ c4;have C5:=hi_ c5;clear c5 e5 c4 e4 c3 e3 c2 e2 c1 e1 c0 e0
 go_enter Tryz.func105,Tryz.ntmps105
 go_wp2_with fail
 refine(C0.out _).mono ?_;rintro e w' ⟨rfl,rfl⟩;go_wp2_with fail
 refine(C1.out _).mono ?_;rintro e w' ⟨rfl,rfl⟩;go_wp2_with fail
 refine(C2.out _).mono ?_;rintro e w' ⟨rfl,rfl⟩;go_wp2_with fail
 refine(C3.out _).mono ?_;rintro e w' ⟨rfl,rfl⟩;go_wp2_with fail
 refine(C4.out _).mono ?_;rintro e w' ⟨rfl,rfl⟩;go_wp2_with fail
 refine(C5.out _).mono ?_;rintro e w' ⟨rfl,rfl⟩;go_wp2_with fail
 go_ret
 exact⟨rfl,rfl⟩
theorem size5(s:ByteArray)(k:Nat)(w:World)(hs:s.size<=140737488351232)(hk:k<=s.size)(e0:U.rng s.data.toList k 0 127=false)(e1:U.rng s.data.toList k 194 223=false)(e2:U.rng s.data.toList k 224 239=true)(e3:U.second (s.data.toList.drop k)=false)(e4:U.rng s.data.toList k 240 244=false) :
  Calls Tryz.prog 105 #[.string s,.int .i64 k] w fun e w'=>e=.returned (.int .i64 0)/\w=w':=by
 have c0:=fun W=>refIn s (k:Int) 0 127 W hs (by omega);rw[Int.toNat_natCast,e0]at c0;have c1:=fun W=>refIn s (k:Int) 194 223 W hs (by omega);rw[Int.toNat_natCast,e1]at c1;have c2:=fun W=>refIn s (k:Int) 224 239 W hs (by omega);rw[Int.toNat_natCast,e2]at c2;have c3:=fun W=>refSecond s (k:Int) W hs (by omega) (by have:=rng_lt e2;omega);rw[Int.toNat_natCast,e3]at c3;have c4:=fun W=>refIn s (k:Int) 240 244 W hs (by omega);rw[Int.toNat_natCast,e4]at c4;have C0:=hi_ c0;have C1:=hi_ c1;have C2:=hi_ c2;have C3:=hi_ c3;have C4:=hi_ c4;clear c4 e4 c3 e3 c2 e2 c1 e1 c0 e0
 go_enter Tryz.func105,Tryz.ntmps105
 go_wp2_with fail
 refine(C0.out _).mono ?_;rintro e w' ⟨rfl,rfl⟩;go_wp2_with fail
 refine(C1.out _).mono ?_;rintro e w' ⟨rfl,rfl⟩;go_wp2_with fail
 refine(C2.out _).mono ?_;rintro e w' ⟨rfl,rfl⟩;go_wp2_with fail
 refine(C3.out _).mono ?_;rintro e w' ⟨rfl,rfl⟩;go_wp2_with fail
 refine(C4.out _).mono ?_;rintro e w' ⟨rfl,rfl⟩;go_wp2_with fail
 go_ret
 exact⟨rfl,rfl⟩
theorem size6(s:ByteArray)(k:Nat)(w:World)(hs:s.size<=140737488351232)(hk:k<=s.size)(e0:U.rng s.data.toList k 0 127=false)(e1:U.rng s.data.toList k 194 223=false)(e2:U.rng s.data.toList k 224 239=false)(e3:U.rng s.data.toList k 240 244=true)(e4:U.second (s.data.toList.drop k)=true)(e5:tl s.data.toList (k+2) 2=true) :
  Calls Tryz.prog 105 #[.string s,.int .i64 k] w fun e w'=>e=.returned (.int .i64 4)/\w=w':=by
 have c0:=fun W=>refIn s (k:Int) 0 127 W hs (by omega);rw[Int.toNat_natCast,e0]at c0;have c1:=fun W=>refIn s (k:Int) 194 223 W hs (by omega);rw[Int.toNat_natCast,e1]at c1;have c2:=fun W=>refIn s (k:Int) 224 239 W hs (by omega);rw[Int.toNat_natCast,e2]at c2;have c3:=fun W=>refIn s (k:Int) 240 244 W hs (by omega);rw[Int.toNat_natCast,e3]at c3;have c4:=fun W=>refSecond s (k:Int) W hs (by omega) (by have:=rng_lt e3;omega);rw[Int.toNat_natCast,e4]at c4;have c5:=fun W=>refTail s ((k:Int)+2) 2 W hs (by omega) (by omega) (by omega);rw[show((k:Int)+2).toNat=k+2 from by omega,e5]at c5;have C0:=hi_ c0;have C1:=hi_ c1;have C2:=hi_ c2;have C3:=hi_ c3;have C4:=hi_ c4;have C5:=hi_ c5;clear c5 e5 c4 e4 c3 e3 c2 e2 c1 e1 c0 e0
 go_enter Tryz.func105,Tryz.ntmps105
 go_wp2_with fail
 refine(C0.out _).mono ?_;rintro e w' ⟨rfl,rfl⟩;go_wp2_with fail
 refine(C1.out _).mono ?_;rintro e w' ⟨rfl,rfl⟩;go_wp2_with fail
 refine(C2.out _).mono ?_;rintro e w' ⟨rfl,rfl⟩;go_wp2_with fail
 refine(C3.out _).mono ?_;rintro e w' ⟨rfl,rfl⟩;go_wp2_with fail
 refine(C4.out _).mono ?_;rintro e w' ⟨rfl,rfl⟩;go_wp2_with fail
 refine(C5.out _).mono ?_;rintro e w' ⟨rfl,rfl⟩;go_wp2_with fail
 go_ret
 exact⟨rfl,rfl⟩
theorem size7(s:ByteArray)(k:Nat)(w:World)(hs:s.size<=140737488351232)(hk:k<=s.size)(e0:U.rng s.data.toList k 0 127=false)(e1:U.rng s.data.toList k 194 223=false)(e2:U.rng s.data.toList k 224 239=false)(e3:U.rng s.data.toList k 240 244=true)(e4:U.second (s.data.toList.drop k)=true)(e5:tl s.data.toList (k+2) 2=false) :
  Calls Tryz.prog 105 #[.string s,.int .i64 k] w fun e w'=>e=.returned (.int .i64 0)/\w=w':=by
 have c0:=fun W=>refIn s (k:Int) 0 127 W hs (by omega);rw[Int.toNat_natCast,e0]at c0;have c1:=fun W=>refIn s (k:Int) 194 223 W hs (by omega);rw[Int.toNat_natCast,e1]at c1;have c2:=fun W=>refIn s (k:Int) 224 239 W hs (by omega);rw[Int.toNat_natCast,e2]at c2;have c3:=fun W=>refIn s (k:Int) 240 244 W hs (by omega);rw[Int.toNat_natCast,e3]at c3;have c4:=fun W=>refSecond s (k:Int) W hs (by omega) (by have:=rng_lt e3;omega);rw[Int.toNat_natCast,e4]at c4;have c5:=fun W=>refTail s ((k:Int)+2) 2 W hs (by omega) (by omega) (by omega);rw[show((k:Int)+2).toNat=k+2 from by omega,e5]at c5;have C0:=hi_ c0;have C1:=hi_ c1;have C2:=hi_ c2;have C3:=hi_ c3;have C4:=hi_ c4;have C5:=hi_ c5;clear c5 e5 c4 e4 c3 e3 c2 e2 c1 e1 c0 e0
 go_enter Tryz.func105,Tryz.ntmps105
 go_wp2_with fail
 refine(C0.out _).mono ?_;rintro e w' ⟨rfl,rfl⟩;go_wp2_with fail
 refine(C1.out _).mono ?_;rintro e w' ⟨rfl,rfl⟩;go_wp2_with fail
 refine(C2.out _).mono ?_;rintro e w' ⟨rfl,rfl⟩;go_wp2_with fail
 refine(C3.out _).mono ?_;rintro e w' ⟨rfl,rfl⟩;go_wp2_with fail
 refine(C4.out _).mono ?_;rintro e w' ⟨rfl,rfl⟩;go_wp2_with fail
 refine(C5.out _).mono ?_;rintro e w' ⟨rfl,rfl⟩;go_wp2_with fail
 go_ret
 exact⟨rfl,rfl⟩
theorem size8(s:ByteArray)(k:Nat)(w:World)(hs:s.size<=140737488351232)(hk:k<=s.size)(e0:U.rng s.data.toList k 0 127=false)(e1:U.rng s.data.toList k 194 223=false)(e2:U.rng s.data.toList k 224 239=false)(e3:U.rng s.data.toList k 240 244=true)(e4:U.second (s.data.toList.drop k)=false) :
  Calls Tryz.prog 105 #[.string s,.int .i64 k] w fun e w'=>e=.returned (.int .i64 0)/\w=w':=by
 have c0:=fun W=>refIn s (k:Int) 0 127 W hs (by omega);rw[Int.toNat_natCast,e0]at c0;have c1:=fun W=>refIn s (k:Int) 194 223 W hs (by omega);rw[Int.toNat_natCast,e1]at c1;have c2:=fun W=>refIn s (k:Int) 224 239 W hs (by omega);rw[Int.toNat_natCast,e2]at c2;have c3:=fun W=>refIn s (k:Int) 240 244 W hs (by omega);rw[Int.toNat_natCast,e3]at c3;have c4:=fun W=>refSecond s (k:Int) W hs (by omega) (by have:=rng_lt e3;omega);rw[Int.toNat_natCast,e4]at c4;have C0:=hi_ c0;have C1:=hi_ c1;have C2:=hi_ c2;have C3:=hi_ c3;have C4:=hi_ c4;clear c4 e4 c3 e3 c2 e2 c1 e1 c0 e0
 go_enter Tryz.func105,Tryz.ntmps105
 go_wp2_with fail
 refine(C0.out _).mono ?_;rintro e w' ⟨rfl,rfl⟩;go_wp2_with fail
 refine(C1.out _).mono ?_;rintro e w' ⟨rfl,rfl⟩;go_wp2_with fail
 refine(C2.out _).mono ?_;rintro e w' ⟨rfl,rfl⟩;go_wp2_with fail
 refine(C3.out _).mono ?_;rintro e w' ⟨rfl,rfl⟩;go_wp2_with fail
 refine(C4.out _).mono ?_;rintro e w' ⟨rfl,rfl⟩;go_wp2_with fail
 go_ret
 exact⟨rfl,rfl⟩
theorem size9(s:ByteArray)(k:Nat)(w:World)(hs:s.size<=140737488351232)(hk:k<=s.size)(e0:U.rng s.data.toList k 0 127=false)(e1:U.rng s.data.toList k 194 223=false)(e2:U.rng s.data.toList k 224 239=false)(e3:U.rng s.data.toList k 240 244=false) :
  Calls Tryz.prog 105 #[.string s,.int .i64 k] w fun e w'=>e=.returned (.int .i64 0)/\w=w':=by
 have c0:=fun W=>refIn s (k:Int) 0 127 W hs (by omega);rw[Int.toNat_natCast,e0]at c0;have c1:=fun W=>refIn s (k:Int) 194 223 W hs (by omega);rw[Int.toNat_natCast,e1]at c1;have c2:=fun W=>refIn s (k:Int) 224 239 W hs (by omega);rw[Int.toNat_natCast,e2]at c2;have c3:=fun W=>refIn s (k:Int) 240 244 W hs (by omega);rw[Int.toNat_natCast,e3]at c3;have C0:=hi_ c0;have C1:=hi_ c1;have C2:=hi_ c2;have C3:=hi_ c3;clear c3 e3 c2 e2 c1 e1 c0 e0
 go_enter Tryz.func105,Tryz.ntmps105
 go_wp2_with fail
 refine(C0.out _).mono ?_;rintro e w' ⟨rfl,rfl⟩;go_wp2_with fail
 refine(C1.out _).mono ?_;rintro e w' ⟨rfl,rfl⟩;go_wp2_with fail
 refine(C2.out _).mono ?_;rintro e w' ⟨rfl,rfl⟩;go_wp2_with fail
 refine(C3.out _).mono ?_;rintro e w' ⟨rfl,rfl⟩;go_wp2_with fail
 go_ret
 exact⟨rfl,rfl⟩
theorem refSize(s:ByteArray)(i:Int)(w:World)(hs:s.size<=140737488351232)(h0:0<=i)(hi:i<=s.size) :
  Calls Tryz.prog 105 #[.string s,.int .i64 i] w fun e w'=>e=.returned (.int .i64 (U.sz (s.data.toList.drop i.toNat)))/\w=w':=by
 obtain⟨k,rfl⟩:=Int.eq_ofNat_of_zero_le h0;rw[Int.toNat_natCast,sz_at];have hk:k<=s.size:=by omega
 cases e0:U.rng s.data.toList k 0 127 with
 |true=>exact size0 s k w hs hk e0
 |false=>
  cases e1:U.rng s.data.toList k 194 223 with
  |true=>
   cases e2:tl s.data.toList (k+1) 1 with
   |true=>exact size1 s k w hs hk e0 e1 e2
   |false=>
    have e3:=rng_other (lo':=224) (hi':=239) e1 (by omega);have e4:=rng_other (lo':=240) (hi':=244) e1 (by omega);rw[e3,e4];exact size2 s k w hs hk e0 e1 e2 e3 e4
  |false=>
   cases e2:U.rng s.data.toList k 224 239 with
   |true=>
    have e4:=rng_other (lo':=240) (hi':=244) e2 (by omega);rw[e4]
    cases e3:U.second (s.data.toList.drop k) with
    |true=>
     cases e5:tl s.data.toList (k+2) 1 with
     |true=>exact size3 s k w hs hk e0 e1 e2 e3 e5
     |false=>exact size4 s k w hs hk e0 e1 e2 e3 e5 e4
    |false=>exact size5 s k w hs hk e0 e1 e2 e3 e4
   |false=>
    cases e3:U.rng s.data.toList k 240 244 with
    |true=>
     cases e4:U.second (s.data.toList.drop k) with
     |true=>
      cases e5:tl s.data.toList (k+2) 2 with
      |true=>exact size6 s k w hs hk e0 e1 e2 e3 e4 e5
      |false=>exact size7 s k w hs hk e0 e1 e2 e3 e4 e5
     |false=>exact size8 s k w hs hk e0 e1 e2 e3 e4
    |false=>exact size9 s k w hs hk e0 e1 e2 e3
end T
end
section
open Go.RowKit
namespace H
section
variable {α:Type} {c:α->Value->List Value} {I:(Nat->Prop)->World->Value->α->Prop} {S S':Nat->Prop} {w w':World} {v:Value} {l:List α} {base size:Nat} {e:TypeId}
theorem flat_at{β:Type}{f:β->List Value}{size:Nat}(hf:∀b,(f b).length=size):∀(ps:List β) (k:Nat) (hk:k<ps.length) (o:Nat),o<size->(ps.flatMap f)[k*size+o]?=(f ps[k])[o]?
 |[],k,hk,o,ho=>by simp at hk
 |p :: ps,0,hk,o,ho=>by
  rw[List.flatMap_cons,Nat.zero_mul,Nat.zero_add,List.getElem?_append_left (by rw[hf];exact ho)];rfl
 |p :: ps,k+1,hk,o,ho=>by
  have e:(k+1)*size+o=size+(k*size+o):=by rw[Nat.succ_mul];omega
  rw[List.flatMap_cons,e,List.getElem?_append_right (by rw[hf];omega),hf,Nat.add_sub_cancel_left];exact flat_at hf ps k (by simpa using hk) o ho
theorem flat_len{β:Type}{f:β->List Value}{size:Nat}(hf:∀b,(f b).length=size):∀(ps:List β),(ps.flatMap f).length=ps.length*size
 |[]=>by simp
 |p :: ps=>by rw[List.flatMap_cons,List.length_append,hf,flat_len hf ps,List.length_cons,Nat.succ_mul];omega
end
end H
end
section
namespace G
theorem WF.low_all{m:Model}(W:WF m):Low m.length m:=fun i hi c hc=>(W.kid i c hc).1
theorem old_height{B:Nat}{m m':Model}(W:WF m)(W':WF m')(hL:Low B m)(hk:∀i,i<B->nd m' i=nd m i)(i:Nat):i<B->height m' i=height m i:=by
 refine W.down_ind (P:=fun i=>i<B->height m' i=height m i) (fun i ih hi=>?_) i;rw[W.height_eq,W'.height_eq,hk i hi];exact congrArg (fun l=>maxL l+1) (List.map_congr_left fun c hc=>ih c hc (hL i hi c hc))
theorem old_walk{B:Nat}{m m':Model}(W:WF m)(W':WF m')(hL:Low B m)(hk:∀i,i<B->nd m' i=nd m i)(i:Nat):i<B->walk m' i=walk m i:=by
 refine W.down_ind (P:=fun i=>i<B->walk m' i=walk m i) (fun i ih hi=>?_) i;rw[W.walk_eq,W'.walk_eq,hk i hi];exact congrArg (i :: ·) (flat_congr fun c hc=>ih c hc (hL i hi c hc))
theorem WF.contains_kid{m:Model}(W:WF m){j c p:Nat}(hc:c∈(nd m j).kids)(h:contains m c p=true):contains m j p=true:=by
 have hp:=(W.kid j c hc).2;have key:∀p,contains m c p=true->contains m j p=true:=by
  intro p;refine W.up_ind (P:=fun p=>contains m c p=true->contains m j p=true) (fun p h1 h2=>?_) (fun p q h1 ih h2=>?_) p
  ·rw[W.contains_root h1]at h2
   have e:=beq_iff_eq.1 h2;subst e;rw[hp]at h1
   cases h1
  ·rw[W.contains_step h1]at h2 ⊢
   rcases Bool.or_eq_true_iff.1 h2 with h3|h3
   ·have e:=beq_iff_eq.1 h3
    subst e;have e2:q=j:=by rw[hp]at h1;injection h1 with h1;exact h1.symm
    subst e2;rw[W.contains_self,Bool.or_true]
   ·rw[ih h3,Bool.or_true]
 exact key p h
theorem height_put{m:Model}{p k L:Nat}(W:WF m)(W':WF (put m p k L))(hp:p<m.length)(hk:k<m.length)(j:Nat):contains m j p=false->height (put m p k L) j=height m j:=by
 refine W.down_ind (P:=fun j=>contains m j p=false->height (put m p k L) j=height m j) (fun j ih hj=>?_) j;have hne:j≠p:=fun e=>by subst e;rw[W.contains_self]at hj;cases hj
 rw[W.height_eq,W'.height_eq,nd_put hk hp];dsimp only;rw[if_neg hne];refine congrArg (fun l=>maxL l+1) (List.map_congr_left fun c hc=>ih c hc ?_)
 cases h:contains m c p with
 |false=>rfl
 |true=>rw[W.contains_kid hc h]at hj;cases hj
theorem walk_put{m:Model}{p k L:Nat}(W:WF m)(W':WF (put m p k L))(hp:p<m.length)(hk:k<m.length)(j:Nat):contains m j p=false->walk (put m p k L) j=walk m j:=by
 refine W.down_ind (P:=fun j=>contains m j p=false->walk (put m p k L) j=walk m j) (fun j ih hj=>?_) j;have hne:j≠p:=fun e=>by subst e;rw[W.contains_self]at hj;cases hj
 rw[W.walk_eq,W'.walk_eq,nd_put hk hp];dsimp only;rw[if_neg hne];refine congrArg (j :: ·) (flat_congr fun c hc=>ih c hc ?_)
 cases h:contains m c p with
 |false=>rfl
 |true=>rw[W.contains_kid hc h]at hj;cases hj
theorem range_join{a b c:Nat}(h1:a<=b)(h2:b<=c):List.range' a (b-a)++List.range' b (c-b)=List.range' a (c-a):=by
 obtain⟨x,rfl⟩:=Nat.le.dest h1;obtain⟨y,rfl⟩:=Nat.le.dest h2;rw[show a+x-a=x by omega,show a+x+y-(a+x)=y by omega,show a+x+y-a=x+y by omega,List.range'_append_1]
structure Copied(m m':Model)(h:Nat):Prop where
 wf:WF m'
 more:m.length<m'.length
 old:∀i,i<m.length->nd m' i=nd m i
 root:(nd m' m.length).parent=none/\(nd m' m.length).gone=false/\(nd m' m.length).kind=(nd m h).kind
 high:height m' m.length<=height m h
 walk:walk m' m.length=List.range' m.length (m'.length-m.length)
theorem WF.copied_one{m:Model}(W:WF m){h:Nat}(hh:h<m.length)(h0:0<h):Copied m (m++[bare (nd m h)]) h:=by
 have hW:WF (m++[bare (nd m h)]):=W.make rfl rfl (W.kinds h hh h0);have hn:(m++[bare (nd m h)]).length=m.length+1:=by simp
 have hx:nd (m++[bare (nd m h)]) m.length=bare (nd m h):=nd_new;refine⟨hW,by omega,fun i hi=>nd_app hi,by rw[hx];exact⟨rfl,rfl,rfl⟩,?_,?_⟩
 ·rw[hW.height_eq,hx]
  have:=W.height_pos h;show maxL []+1<=_;unfold maxL;simp;omega
 ·rw[hW.walk_eq,hx,hn,Nat.add_sub_cancel_left]
  rfl
theorem WF.copyT:∀(n:Nat) {m:Model} (W:WF m) {h:Nat} (deep:Bool),h<m.length->0<h->G.low m n h->Copied m (G.copyT n m h deep) h
 |0,m,W,h,deep,hh,h0,hl=>hl.elim
 |n+1,m,W,h,deep,hh,h0,hl=>by
  have h1:=W.copied_one hh h0;have hn:(m++[bare (nd m h)]).length=m.length+1:=by simp
  rw[G.copyT]
  cases deep with
  |false=>exact h1
  |true=>
   simp only [if_true]; have hf : ∀ (l : List Nat) (m' : Model), (∀ c ∈ l, c ∈ (nd m h).kids) → Copied m m' h →
     Copied m (l.foldl (fun m' c=>G.put (G.copyT n m' c true) m.length m'.length (nd (G.copyT n m' c true) m.length).kids.length) m') h:=by
    intro l
    induction l with
    |nil=>exact fun m' _ h=>h
    |cons c t ih=>
     intro m' hc C;have hck:=hc c (by simp);obtain⟨hcm,hcp⟩:=W.kid h c hck;have hc0:0<c:=by
      rcases Nat.eq_zero_or_pos c with e|e
      ·subst e;rw[W.doc.2.2.1]at hcp;cases hcp
      ·exact e
     have hmore:=C.more;have hcl:G.low m' n c:=low_same W.low_all C.old hcm (hl c hck);have C2:=WF.copyT n C.wf true (by omega:c<m'.length) hc0 hcl;rw[List.foldl_cons];refine ih _ (fun d hd=>hc d (by simp[hd])) ?_;generalize hm2:G.copyT n m' c true=m2 at C2 ⊢;have hmore2:=C2.more;have hkk:nd m2 m.length=nd m' m.length:=C2.old _ hmore;have hkp:(nd m2 m.length).parent=none:=by rw[hkk];exact C.root.1
     have hcon:contains m2 m'.length m.length=false:=by
      rw[C2.wf.contains_root hkp,beq_eq_false_iff_ne];omega
     have hch:height m' c=height m c:=old_height W C.wf W.low_all C.old c hcm;have hhk:=W.height_kid hck;have hhd:=W.height_depth h;have hdp:=W.depth_pos h;have hrh:=C2.high;have hkind:(nd m h).kind<=2:=by
      rcases Nat.lt_or_ge 2 (nd m h).kind with e|e
      ·rw[W.leaf h (by omega)]at hck;cases hck
      ·exact e
     have W3:WF (G.put m2 m.length m'.length (nd m2 m.length).kids.length):=by
      refine C2.wf.put C2.root.1 (by omega) hmore2 (by omega) hcon ?_ (by rw[hkk,C.root.2.2];exact hkind) (by rw[hkk,C2.root.2.1,C.root.2.1]);rw[C2.wf.depth_root hkp];omega
     have hnd:∀i,nd (G.put m2 m.length m'.length (nd m2 m.length).kids.length) i={ nd m2 i with kids:=if i=m.length then(nd m2 i).kids.take (nd m2 m.length).kids.length++m'.length :: (nd m2 i).kids.drop (nd m2 m.length).kids.length else(nd m2 i).kids,parent:=if i=m'.length then some m.length else(nd m2 i).parent }:=fun i=>nd_put hmore2 (by omega) i;have hkids:(nd (G.put m2 m.length m'.length (nd m2 m.length).kids.length) m.length).kids=(nd m' m.length).kids++[m'.length]:=by
      rw[hnd];dsimp only;rw[if_pos rfl,List.take_length,List.drop_length,hkk]
     have hnok:∀j,j≠m.length->contains m2 j m.length=false:=fun j hj=>by rw[C2.wf.contains_root hkp,beq_eq_false_iff_ne];exact hj
     have hkne:∀j∈(nd m' m.length).kids,j≠m.length/\j<m'.length:=fun j hj=>by
      obtain⟨a,b⟩:=C.wf.kid _ j hj;exact⟨fun e=>(by subst e;rw[C.root.1]at b;cases b),a⟩
     refine⟨W3,by rw[put_len];omega,fun i hi=>?_,?_,?_,?_⟩
     ·rw[hnd,if_neg (by omega),if_neg (by omega)]
      exact(C2.old i (by omega)).trans (C.old i hi)
     ·rw[hnd]
      dsimp only;rw[if_neg (by omega),hkk];exact C.root
     ·rw[W3.height_eq,hkids]
      have:maxL (((nd m' m.length).kids++[m'.length]).map (height (G.put m2 m.length m'.length (nd m2 m.length).kids.length)))<=height m h-1:=by
       refine maxL_le fun x hx=>?_;obtain⟨j,hj,rfl⟩:=List.mem_map.1 hx
       rcases List.mem_append.1 hj with hj|hj
       ·obtain⟨e1,e2⟩:=hkne j hj
        rw[height_put C2.wf W3 (by omega) hmore2 j (hnok j e1),old_height C.wf C2.wf C.wf.low_all C2.old j e2];have:=C.wf.height_kid hj;have:=C.high;omega
       ·have e:=List.mem_singleton.1 hj
        subst e;rw[height_put C2.wf W3 (by omega) hmore2 _ hcon];omega
      omega
     ·rw[W3.walk_eq,hkids,List.flatMap_append,put_len]
      have e1:(nd m' m.length).kids.flatMap (G.walk (G.put m2 m.length m'.length (nd m2 m.length).kids.length))=(nd m' m.length).kids.flatMap (G.walk m'):=flat_congr fun j hj=>by
       obtain⟨a,b⟩:=hkne j hj;rw[walk_put C2.wf W3 (by omega) hmore2 j (hnok j a),old_walk C.wf C2.wf C.wf.low_all C2.old j b]
      have e2:[m'.length].flatMap (G.walk (G.put m2 m.length m'.length (nd m2 m.length).kids.length))=List.range' m'.length (m2.length-m'.length):=by
       rw[List.flatMap_cons,List.flatMap_nil,List.append_nil,walk_put C2.wf W3 (by omega) hmore2 _ hcon];exact C2.walk
      rw[e1,e2,<-List.cons_append,<-C.wf.walk_eq,C.walk];exact range_join (by omega) (by omega)
   exact hf _ _ (fun c hc=>hc) h1
theorem idx_at{l:List Nat}(hn:l.Nodup){i c:Nat}(h:l[i]?=some c):l.idxOf c=i:=by
 have h1:=at_idx (List.mem_of_getElem? h);have hi:i<l.length:=by
  rcases Nat.lt_or_ge i l.length with h2|h2
  ·exact h2
  ·rw[List.getElem?_eq_none h2]at h;cases h
 exact((List.getElem?_inj hi hn).1 (h.trans h1.symm)).symm
theorem WF.inside_code{m:Model}(W:WF m){h i:Nat}{y:Nat×Nat}(hy:y∈inside m (all m) h i):∃r,pcode m y=(pidx m h).map odd++odd i :: r:=by
 unfold inside at hy
 split at hy
 ·cases hy
 ·cases hc:(nd m h).kids[i]? with
  |none=>rw[hc]at hy;cases hy
  |some c=>
   rw[hc]at hy;have hm:=List.mem_of_getElem? hc;obtain⟨h1,h2⟩:=W.kid h c hm;obtain⟨h3,_⟩:=(W.mem_all c h1).1 hy;obtain⟨⟨t,ht⟩,_⟩:=W.pidx_contains _ h3;rw[W.pidx_step h2,idx_at (W.nodup h) hc]at ht;refine⟨t.map odd++[2*y.2],?_⟩;unfold pcode;rw[<-ht];simp
theorem own_code(m:Model)(h i:Nat):pcode m (h,i)=(pidx m h).map odd++[2*i]:=rfl
theorem WF.all_sorted{m:Model}(W:WF m)(h:Nat):(all m h).Pairwise (fun p q=>cmpL (pcode m p) (pcode m q)=-1):=by
 refine W.down_ind (P:=fun h=>(all m h).Pairwise (fun p q=>cmpL (pcode m p) (pcode m q)=-1)) (fun h ih=>?_) h;rw[W.all_eq,List.pairwise_flatMap];have hd:∀i x,x∈(h,i) :: inside m (all m) h i->∃a r,pcode m x=(pidx m h).map odd++a :: r/\2*i<=a/\a<=2*i+1:=by
  intro i x hx
  rcases List.mem_cons.1 hx with e|hx
  ·subst e;exact⟨2*i,[],own_code m h i,Nat.le_refl _,by omega⟩
  ·obtain⟨r,hr⟩:=W.inside_code hx
   exact⟨odd i,r,hr,by unfold odd;omega,by unfold odd;omega⟩
 refine⟨fun i hi=>List.pairwise_cons.2 ⟨fun y hy=>?_,?_⟩,?_⟩
 ·obtain⟨r,hr⟩:=W.inside_code hy
  rw[own_code,hr,cmpL_pre,cmpL,if_pos (by unfold odd;omega)]
 ·unfold inside
  split
  ·exact List.Pairwise.nil
  ·cases hc:(nd m h).kids[i]? with
   |none=>exact List.Pairwise.nil
   |some c=>exact ih c (List.mem_of_getElem? hc)
 ·refine List.Pairwise.imp ?_ (List.pairwise_lt_range (n:=sizeOf m h+1))
  intro i j hij x hx y hy;obtain⟨a,r,h1,h2,h3⟩:=hd i x hx;obtain⟨b,s,h4,h5,h6⟩:=hd j y hy;rw[h1,h4,cmpL_pre,cmpL,if_pos (by omega)]
theorem WF.top_contains{m:Model}(W:WF m)(h:Nat):contains m (top m h) h=true:=by
 refine W.up_ind (P:=fun h=>contains m (top m h) h=true) (fun h hp=>?_) (fun h p hp ih=>?_) h
 ·rw[W.top_root hp];exact W.contains_self h
 ·rw[W.contains_step hp,W.top_step hp,ih,Bool.or_true]
theorem WF.top_lt{m:Model}(W:WF m)(h:Nat):h<m.length->top m h<m.length:=by
 refine W.up_ind (P:=fun h=>h<m.length->top m h<m.length) (fun h hp hl=>?_) (fun h p hp ih hl=>?_) h
 ·rw[W.top_root hp];exact hl
 ·rw[W.top_step hp];exact ih (W.lt hp).2
def refCmp(m:Model)(a b:Nat×Nat):Int:=
 if (all m (top m a.1)).idxOf a<(all m (top m a.1)).idxOf b then -1 else min ((((all m (top m a.1)).idxOf a:Nat):Int)-(((all m (top m a.1)).idxOf b:Nat):Int)) 1
theorem refCmp_code{m:Model}(W:WF m){a b:Nat×Nat}(ha:PtOk m a)(hb:PtOk m b)(ht:top m a.1=top m b.1):refCmp m a b=cmpL (pcode m a) (pcode m b):=by
 have ma:a∈all m (top m a.1):=(W.mem_all _ (W.top_lt _ ha.1)).2 ⟨W.top_contains _,ha⟩;have mb:b∈all m (top m a.1):=(W.mem_all _ (W.top_lt _ ha.1)).2 ⟨by rw[ht];exact W.top_contains _,hb⟩;have hs:=W.all_sorted (top m a.1);unfold refCmp;generalize all m (top m a.1)=l at *;have la:=List.idxOf_lt_length_of_mem ma;have lb:=List.idxOf_lt_length_of_mem mb;have ga:l[l.idxOf a]=a:=List.getElem_idxOf la;have gb:l[l.idxOf b]=b:=List.getElem_idxOf lb;rw[List.pairwise_iff_getElem]at hs
 rcases Nat.lt_trichotomy (l.idxOf a) (l.idxOf b)with h|h|h
 ·rw[if_pos h]
  have:=hs _ _ la lb h;rw[ga,gb]at this;exact this.symm
 ·rw[if_neg (by omega)]
  have e:a=b:=by
   rw[<-ga,<-gb]
   congr 1
  subst e;rw[cmpL_self];omega
 ·rw[if_neg (by omega)]
  have:=hs _ _ lb la h;rw[ga,gb,cmpL_neg]at this;omega
def withinN(m:Model)(a:Nat×Nat):Nat->Nat->Int
 |0,_=>0
 |n+1,h=>match (nd m h).parent with
  |none=>0
  |some p=>if p=a.1 then(if a.2<=(nd m p).kids.idxOf h then -1 else 1)else withinN m a n p
theorem within_code{m:Model}(W:WF m){a:Nat×Nat}(h:Nat):∀(s:List Nat) (n:Nat),contains m a.1 h=true->h≠a.1->depth m h<=n->withinN m a n h=cmpL (pcode m a) ((pidx m h).map odd++s):=by
 refine W.up_ind (P:=fun h=>∀(s:List Nat) (n:Nat),contains m a.1 h=true->h≠a.1->depth m h<=n->withinN m a n h=cmpL (pcode m a) ((pidx m h).map odd++s)) (fun h hp s n hc hne hn=>?_) (fun h p hp ih s n hc hne hn=>?_) h
 ·rw[W.contains_root hp]at hc
  exact absurd (beq_iff_eq.1 hc).symm hne
 ·obtain⟨n',rfl⟩:∃n',n=n'+1:=⟨n-1,by have:=W.depth_pos h;omega⟩
  have hds:=W.depth_step hp;rw[withinN,hp];dsimp only;rw[W.pidx_step hp]
  by_cases e:p=a.1
  ·rw[if_pos e,e]
   unfold pcode;rw[List.map_append,List.append_assoc,cmpL_pre];show _=cmpL [2*a.2] (odd ((nd m a.1).kids.idxOf h) :: s);rw[cmpL];unfold odd
   by_cases h2:a.2<=(nd m a.1).kids.idxOf h
   ·rw[if_pos h2,if_pos (by omega)]
   ·rw[if_neg h2,if_neg (by omega),if_pos (by omega)]
  ·rw[if_neg e]
   rw[W.contains_step hp]at hc
   rcases Bool.or_eq_true_iff.1 hc with hc|hc
   ·exact absurd (beq_iff_eq.1 hc).symm hne
   ·rw[ih (odd ((nd m p).kids.idxOf h) :: s) n' hc e (by omega),List.map_append,List.append_assoc]
    rfl
def lcmp(m:Model)(a b:Nat×Nat):Int:=
 if a.1=b.1 then(if a.2<b.2 then -1 else if b.2<a.2 then 1 else 0)
 else if contains m a.1 b.1=true then withinN m a 128 b.1
 else if contains m b.1 a.1=true then-withinN m b 128 a.1
 else cmpL (pidx m a.1) (pidx m b.1)
theorem lcmp_code{m:Model}(W:WF m){a b:Nat×Nat}(ht:top m a.1=top m b.1):lcmp m a b=cmpL (pcode m a) (pcode m b):=by
 unfold lcmp
 by_cases e:a.1=b.1
 ·rw[if_pos e]
  unfold pcode;rw[e,cmpL_pre,cmpL]
  by_cases h1:a.2<b.2
  ·rw[if_pos h1,if_pos (by omega)]
  ·have h3:¬2*a.2<2*b.2:=by omega
   by_cases h2:b.2<a.2
   ·have h4:2*b.2<2*a.2:=by omega
    rw[if_neg h1,if_pos h2,if_neg h3,if_pos h4]
   ·have h4:¬2*b.2<2*a.2:=by omega
    rw[if_neg h1,if_neg h2,if_neg h3,if_neg h4,cmpL]
 ·rw[if_neg e]
  by_cases h1:contains m a.1 b.1=true
  ·rw[if_pos h1]
   exact within_code W b.1 [2*b.2] 128 h1 (fun e2=>e e2.symm) (W.depth_le _)
  ·rw[if_neg h1]
   by_cases h2:contains m b.1 a.1=true
   ·rw[if_pos h2,within_code W a.1 [2*a.2] 128 h2 e (W.depth_le _)]
    show-cmpL (pcode m b) (pcode m a)=_;rw[cmpL_neg (pcode m a) (pcode m b),Int.neg_neg]
   ·rw[if_neg h2]
    have h3:¬pidx m a.1 <+: pidx m b.1:=fun h=>h1 (W.contains_pidx _ ht h);have h4:¬pidx m b.1 <+: pidx m a.1:=fun h=>h2 (W.contains_pidx _ ht.symm h);have mono:∀x y,x<y->odd x<odd y:=fun x y h=>by unfold odd;omega
    have inj:∀{x y:List Nat},x.map odd <+: y.map odd->x <+: y:=by
     intro x
     induction x with
     |nil=>intro y _;exact List.nil_prefix
     |cons c x ih=>
      intro y h
      cases y with
      |nil=>exact absurd h (by simp)
      |cons d y=>
       rw[List.map_cons,List.map_cons,List.cons_prefix_cons]at h;have e3:c=d:=by have:=h.1;unfold odd at this;omega
       rw[e3];exact(List.prefix_cons_inj d).2 (ih h.2)
    unfold pcode;rw[cmpL_app _ _ _ _ (fun h=>h3 (inj h)) (fun h=>h4 (inj h)),cmpL_map mono]
theorem lcmp_ref{m:Model}(W:WF m){a b:Nat×Nat}(ha:PtOk m a)(hb:PtOk m b)(ht:top m a.1=top m b.1):lcmp m a b=refCmp m a b:=(lcmp_code W ht).trans (refCmp_code W ha hb ht).symm
end G
end
section
open Go.RowKit
namespace H
section
variable {w:World} {base:Nat} {e:TypeId} {size:Nat} {g n cap:Nat} {xs:List Value}
theorem ownsRow_set(h:w.ownsRow base e size (.slice (some ⟨g,0,none⟩) n cap) n xs)(k:Nat)(u:Value):(w.setCell ⟨g,k,none⟩ u).ownsRow base e size (.slice (some ⟨g,0,none⟩) n cap) n (xs.set k u):=by
 refine⟨by rw[List.length_set];exact h.1,?_⟩
 rcases h.2 with⟨hv,_⟩|⟨g',cap',cur,hv,hb,hg,hn,hm,hc,ht⟩
 ·cases hv
 ·simp only[Value.slice.injEq,Option.some.injEq,Addr.mk.injEq,and_true,true_and]at hv
  obtain⟨rfl,rfl⟩:=hv;have hs:Blk g (cur.setIfInBounds k u) e (w.setCell ⟨g,k,none⟩ u):=Blk.set hg k u;exact Or.inr ⟨g,cap,_,rfl,hb,hs,hn,hm,by rw[Array.size_setIfInBounds];exact hc,by rw[Array.toList_setIfInBounds,List.take_set,ht]⟩
theorem ownsRow_open(h:w.ownsRow base e size (.slice (some ⟨g,0,none⟩) n cap) n xs):g<w.heap.size/\base<=g/\n<=cap/\∀k,k<xs.length->w.cell? ⟨g,k,none⟩=xs[k]?/\w.frozen? ⟨g,k,none⟩=false:=by
 have h1:=h.1
 rcases h.2 with⟨hv,_⟩|⟨g',cap',cur,hv,hb,hg,hn,hm,hc,ht⟩
 ·cases hv
 ·simp only[Value.slice.injEq,Option.some.injEq,Addr.mk.injEq,and_true,true_and]at hv
  obtain⟨rfl,rfl⟩:=hv;obtain⟨hcell,hfr⟩:=cells_of hg;have hle:n*size<=cap*size:=Nat.mul_le_mul_right _ hn;refine⟨lt_of_block hg,hb,hn,fun k hk=>⟨?_,hfr k (by rw[hc];omega)⟩⟩;rw[hcell k,<-ht,List.getElem?_take_of_lt (by omega),Array.getElem?_toList]
end
section
variable {α:Type} {c:α->List Value} {w:World} {base:Nat} {e:TypeId} {size:Nat} {g cap:Nat} {l:List α}
def RecRow(c:α->List Value)(base:Nat)(e:TypeId)(size:Nat)(w:World)(v:Value)(l:List α):Prop:=w.ownsRow base e size v l.length (l.flatMap c)
theorem RecRow.cell(hc:∀x,(c x).length=size)(h:RecRow c base e size w (.slice (some ⟨g,0,none⟩) l.length cap) l){i:Nat}(hi:i<l.length){k:Nat}(hk:k<size) :
  w.cell? ⟨g,i*size+k,none⟩=(c l[i])[k]?/\w.frozen? ⟨g,i*size+k,none⟩=false:=by
 obtain⟨_,_,_,h4⟩:=ownsRow_open h;have hlt:i*size+k<(l.flatMap c).length:=by
  rw[flat_len hc];have:(i+1)*size<=l.length*size:=Nat.mul_le_mul_right _ hi;rw[Nat.succ_mul]at this;omega
 obtain⟨h5,h6⟩:=h4 _ hlt;exact⟨by rw[h5,flat_at hc l i hi k hk],h6⟩
theorem flat_set(hc:∀x,(c x).length=size){k:Nat}(hk:k<size)(u:Value){f:α->α}:∀{l:List α} {i:Nat} (hi:i<l.length),c (f l[i])=(c l[i]).set k u->(l.flatMap c).set (i*size+k) u=(l.modify i f).flatMap c
 |[],i,hi,_=>by simp at hi
 |x :: l,0,hi,hf=>by
  rw[List.flatMap_cons,Nat.zero_mul,Nat.zero_add,List.set_append_left _ _ (by rw[hc];exact hk)];show _=(f x :: l).flatMap c;rw[List.flatMap_cons];have:c (f x)=(c x).set k u:=hf;rw[this]
 |x :: l,i+1,hi,hf=>by
  have e1:(i+1)*size+k=size+(i*size+k):=by rw[Nat.succ_mul];omega
  rw[List.flatMap_cons,e1,List.set_append_right _ _ (by rw[hc];omega),hc,Nat.add_sub_cancel_left];show _=(x :: l.modify i f).flatMap c;rw[List.flatMap_cons,flat_set (l:=l) (i:=i) hc hk u (by simpa using hi) (by simpa using hf)]
theorem RecRow.store(hc:∀x,(c x).length=size)(h:RecRow c base e size w (.slice (some ⟨g,0,none⟩) l.length cap) l){i k:Nat}(hi:i<l.length)(hk:k<size)(u:Value)(f:α->α)(hf:c (f l[i])=(c l[i]).set k u) :
  RecRow c base e size (w.setCell ⟨g,i*size+k,none⟩ u) (.slice (some ⟨g,0,none⟩) (l.modify i f).length cap) (l.modify i f):=by
 have h1:=ownsRow_set h (i*size+k) u;rw[flat_set hc hk u hi hf]at h1;unfold RecRow;rw[List.length_modify];exact h1
end
end H
end
section
namespace G
def sl(L:List Bytes)(f t:Nat):Bytes:=((L.take t).drop f).flatten
def before(m:Model)(a b:Nat×Nat):Bool:=decide (lcmp m a b<0)
theorem lcmp_neg{m:Model}(W:WF m){a b:Nat×Nat}(ht:top m a.1=top m b.1):lcmp m b a=- lcmp m a b:=by
 rw[lcmp_code W ht,lcmp_code W ht.symm,cmpL_neg]
theorem lcmp_cases{m:Model}(W:WF m){a b:Nat×Nat}(ht:top m a.1=top m b.1):lcmp m a b=-1\/lcmp m a b=0\/lcmp m a b=1:=by
 rw[lcmp_code W ht];exact cmpL_range _ _
end G
end
section
open Go.RowKit Go.Sort
namespace A
open H
def nrm(z:Int):Int:=min (max z 1) 1000
theorem nrm_le(z:Int):1<=nrm z/\nrm z<=1000:=by unfold nrm;omega
def slotOf(b s h:Int):Option Nat:=if h<nrm b\/(h-nrm b) % nrm s≠0\/2147483647<(h-nrm b) / nrm s then none else some ((h-nrm b) / nrm s).toNat
def handle(b s:Int)(i:Nat):Int:=nrm b+nrm s*(i:Int)
theorem handle_pos(b s:Int)(i:Nat):1<=handle b s i:=by
 have h1:=nrm_le b;have h2:=nrm_le s;have h3:0<=nrm s*(i:Int):=Int.mul_nonneg (by omega) (by omega);unfold handle;omega
theorem slotOf_handle{b s:Int}{i:Nat}(hi:i<=2147483647):slotOf b s (handle b s i)=some i:=by
 have h1:=nrm_le b;have h2:=nrm_le s;have h3:0<=nrm s*(i:Int):=Int.mul_nonneg (by omega) (by omega);have e:handle b s i-nrm b=nrm s*(i:Int):=by unfold handle;omega
 unfold slotOf;rw[e,Int.mul_emod_right,Int.mul_ediv_cancel_left _ (by omega)];rw[if_neg]
 ·simp
 ·rintro(h|h|h)
  ·unfold handle at h;omega
  ·exact h rfl
  ·omega
theorem slotOf_inv{b s h:Int}{i:Nat}(hh:slotOf b s h=some i):h=handle b s i/\i<=2147483647:=by
 have h1:=nrm_le b;have h2:=nrm_le s;unfold slotOf at hh
 split at hh
 ·cases hh
 ·rename_i hn
  injection hh with hh
  have h3:¬h<nrm b:=fun e=>hn (Or.inl e);have h4:(h-nrm b) % nrm s=0:=Classical.not_not.1 (fun e=>hn (Or.inr (Or.inl e)));have h5:¬2147483647<(h-nrm b) / nrm s:=fun e=>hn (Or.inr (Or.inr e));have h6:0<=(h-nrm b) / nrm s:=Int.ediv_nonneg (by omega) (by omega);have h7:nrm s*((h-nrm b) / nrm s)=h-nrm b:=Int.mul_ediv_cancel' (Int.dvd_of_emod_eq_zero h4);refine⟨?_,by omega⟩;unfold handle;rw[<-hh,Int.toNat_of_nonneg h6,h7];omega
theorem norm(b s:Int)(w:World):Calls Tryz.prog 159 #[.agg #[.int .i64 b,.int .i64 s]] w fun e w'=>e=.returned (.agg #[.int .i64 (nrm b),.int .i64 (nrm s)])/\Below w.heap.size w w':=by
 have hB:=((Below.refl w.heap.size w).alloc (Nat.le_refl _) (.cells #[.int .i64 b,.int .i64 s] 87)).alloc (by simp) (.cells #[.int .i64 (min (max b 1) 1000),.int .i64 (min (max s 1) 1000)] 87)
 go_enter Tryz.func159,Tryz.ntmps159
 go_wp2_with fail
 exact bodyPost_ret (v:=.agg #[.int .i64 (min (max b 1) 1000),.int .i64 (min (max s 1) 1000)]) (by simp[results,Tryz.results159,go_sem]) rfl ⟨rfl,hB⟩
theorem ret_i64{a b:Int}(h:a=b):Ending.returned (.int .i64 a)=Ending.returned (.int .i64 b):=by rw[h]
def slotI(b s h:Int):Int:=match slotOf b s h with|some i=>(i:Int)|none=>-1
theorem index(b s h:Int)(w:World)(hh:-9223372036854775808<=h)(hh2:h<=9223372036854775807):Calls Tryz.prog 158 #[.agg #[.int .i64 b,.int .i64 s],.int .i64 h] w fun e w'=>e=.returned (.int .i64 (slotI b s h))/\Below w.heap.size w w':=by
 have QN:=hi_ (fun W=>norm b s W);have h1:=nrm_le b;have h2:=nrm_le s;have hB1:=(Below.refl w.heap.size w).alloc (Nat.le_refl _) (.cells #[.int .i64 b,.int .i64 s] 87);have hsl:slotI b s h=if h<nrm b\/(h-nrm b) % nrm s≠0\/2147483647<(h-nrm b) / nrm s then -1 else(h-nrm b) / nrm s:=by
  unfold slotI slotOf
  by_cases e:h<nrm b\/(h-nrm b) % nrm s≠0\/2147483647<(h-nrm b) / nrm s
  ·rw[if_pos e,if_pos e]
  ·rw[if_neg e,if_neg e]
   have h3:¬h<nrm b:=fun e2=>e (Or.inl e2);have h6:0<=(h-nrm b) / nrm s:=Int.ediv_nonneg (by omega) (by omega);show(((h-nrm b) / nrm s).toNat:Int)=_;omega
 have HSl:=hi_ hsl;generalize slotI b s h=z at *;generalize nrm b=B at *;generalize nrm s=S at *;clear hsl
 go_enter Tryz.func158,Tryz.ntmps158
 go_wp2_with fail
 refine(QN.out _).mono ?_;rintro e w2 ⟨rfl,hb2⟩;have HB2:=hi_ ((hB1.trans (hb2.mono hB1.size)).alloc (Nat.le_trans hB1.size hb2.size) (.cells #[.int .i64 B,.int .i64 S] 87));clear hb2 hB1 QN
 by_cases c1:h<B
 ·go_wp2_with fail
  go_ret
  exact⟨ret_i64 (a:=-1) (by rw[HSl.out,if_pos (Or.inl c1)]),HB2.out⟩
 ·have w1:IntKind.i64.wrap (h-B)=h-B:=IntWalk.i64_in _ (by omega)
  have s0:¬S=0:=by omega
  by_cases c2:(h-B) % S=0
  ·by_cases c3:2147483647<(h-B) / S
   ·go_wp2_with fail
    go_ret
    exact⟨ret_i64 (a:=-1) (by rw[HSl.out,if_pos (Or.inr (Or.inr c3))]),HB2.out⟩
   ·go_wp2_with fail
    go_ret
    exact⟨ret_i64 (a:=(h-B) / S) (by rw[HSl.out,if_neg (fun h3=>h3.elim (fun h4=>by omega) (fun h4=>h4.elim (fun h5=>h5 c2) (fun h5=>by omega)))]),HB2.out⟩
  ·go_wp2_with fail
   go_ret
   exact⟨ret_i64 (a:=-1) (by rw[HSl.out,if_pos (Or.inr (Or.inl c2))]),HB2.out⟩
theorem handle_(b s:Int)(i:Nat)(w:World)(hi:i<=2147483647):Calls Tryz.prog 138 #[.agg #[.int .i64 b,.int .i64 s],.int .i64 i] w fun e w'=>e=.returned (.int .i64 (handle b s i))/\Below w.heap.size w w':=by
 have QN:=hi_ (fun W=>norm b s W);have h1:=nrm_le b;have h2:=nrm_le s;have hB1:=(Below.refl w.heap.size w).alloc (Nat.le_refl _) (.cells #[.int .i64 b,.int .i64 s] 87);have hm:nrm s*(i:Int)<=1000*2147483647:=Int.mul_le_mul h2.2 (by omega) (by omega) (by omega);have hm0:0<=nrm s*(i:Int):=Int.mul_nonneg (by omega) (by omega);have HH:Hid (handle b s i=nrm b+nrm s*(i:Int)):=hi_ rfl;generalize handle b s i=z at *;generalize nrm b=B at *;generalize nrm s=S at *;have w1:IntKind.i64.wrap (S*(i:Int))=S*(i:Int):=IntWalk.i64_in _ (by omega);have w2:IntKind.i64.wrap (B+S*(i:Int))=B+S*(i:Int):=IntWalk.i64_in _ (by omega);have c1:¬(i:Int)<0:=by omega
 have c2:¬2147483647<(i:Int):=by omega
 go_enter Tryz.func138,Tryz.ntmps138
 go_wp2_with fail
 refine(QN.out _).mono ?_;rintro e w2 ⟨rfl,hb2⟩;have HB2:=hi_ ((hB1.trans (hb2.mono hB1.size)).alloc (Nat.le_trans hB1.size hb2.size) (.cells #[.int .i64 B,.int .i64 S] 87));clear hb2 hB1 QN;go_wp2_with fail
 go_ret
 exact⟨ret_i64 (a:=B+S*(i:Int)) HH.out.symm,HB2.out⟩
end A
end
section
namespace G
theorem cut_contains{m:Model}(W:WF m){h p:Nat}(hp:(nd m h).parent=some p)(x:Nat):contains (cut m h p) h x=contains m h x:=by
 have W':=W.cut hp;obtain⟨h1,h2⟩:=W.lt hp;have hP:∀j,(nd (cut m h p) j).parent=if j=h then none else(nd m j).parent:=fun j=>by rw[nd_cut h1 h2]
 refine W.up_ind (P:=fun x=>contains (cut m h p) h x=contains m h x) (fun x hx=>?_) (fun x q hx ih=>?_) x
 ·have hne:x≠h:=fun e=>by subst e;rw[hp]at hx;cases hx
  rw[W.contains_root hx,W'.contains_root (by rw[hP,if_neg hne];exact hx)]
 ·by_cases e:x=h
  ·subst e
   rw[W.contains_self,W'.contains_self]
  ·rw[W.contains_step hx,W'.contains_step (by rw[hP,if_neg e];exact hx),ih]
end G
end
section
open Go.RowKit
namespace H
structure Frame(S:Nat->Prop)(w w':World):Prop where
 os:w'.os=w.os
 tape:w'.tape=w.tape
 output:w'.output=w.output
 size:w.heap.size<=w'.heap.size
 block:∀k,k<w.heap.size->¬S k->w'.heap[k]?=w.heap[k]?
section
variable {S S':Nat->Prop} {u w w':World}
theorem Frame.refl(S:Nat->Prop)(w:World):Frame S w w:=⟨rfl,rfl,rfl,Nat.le_refl _,fun _ _ _=>rfl⟩
theorem Frame.of(h:Below w.heap.size w w'):Frame S w w':=⟨h.os,h.tape,h.output,h.size,fun k hk _=>h.block k hk⟩
theorem Frame.wide(h:Frame S w w')(hS:∀k,S k->S' k):Frame S' w w':=⟨h.os,h.tape,h.output,h.size,fun k hk hn=>h.block k hk (fun hs=>hn (hS k hs))⟩
theorem Frame.trans(h:Frame S u w)(k:Frame S' w w')(hS:∀b,S' b->S b\/u.heap.size<=b):Frame S u w':=
 ⟨k.os.trans h.os,k.tape.trans h.tape,k.output.trans h.output,Nat.le_trans h.size k.size,fun i hi hn=>
  (k.block i (Nat.lt_of_lt_of_le hi h.size) (fun hs=>(hS i hs).elim hn (fun hh=>by omega))).trans (h.block i hi hn)⟩
theorem Frame.below_(h:Frame S u w)(k:Below w.heap.size w w'):Frame S u w':=h.trans (S':=fun _=>False) (Frame.of k) (fun _ hb=>hb.elim)
theorem Frame.set(h:Frame S u w){g:Nat}(hg:S g\/u.heap.size<=g)(o:Nat)(v:Value):Frame S u (w.setCell ⟨g,o,none⟩ v):=
 ⟨h.os,h.tape,h.output,by have:=h.size;simpa[World.setCell]using this,fun i hi hn=>
  (Below.heap_setCell w ⟨g,o,none⟩ v i (by show i≠g;rintro rfl;exact hg.elim hn (fun hh=>by omega))).trans (h.block i hi hn)⟩
theorem Frame.alloc(h:Frame S u w)(o:Obj):Frame S u (w.alloc o):=h.below_ ((Below.refl _ _).alloc (Nat.le_refl _) o)
theorem Frame.grown(h:Frame S u w){row:Option Nat}(hg:w.grownBy w' row)(hr:∀k,row=some k->S k\/u.heap.size<=k):Frame S u w':=
 ⟨hg.os.trans h.os,hg.tape.trans h.tape,hg.output.trans h.output,Nat.le_trans h.size hg.size,fun i hi hn=>
  (hg.block i (Nat.lt_of_lt_of_le hi h.size) (fun e=>(hr i e.symm).elim hn (fun hh=>by omega))).trans (h.block i hi hn)⟩
theorem Frame.below(h:Frame S w w'){B:Nat}(hS:∀k,S k->B<=k)(hB:B<=w.heap.size):Below B w w':=
 ⟨h.os,h.tape,h.output,h.size,fun k hk=>h.block k (by omega) (fun hs=>by have:=hS k hs;omega)⟩
theorem Blk.frame{g:Nat}{cs:Array Value}{t:TypeId}(h:Blk g cs t w)(f:Frame S w w')(hn:¬S g):Blk g cs t w':=(f.block g (lt_of_block h) hn).trans h
theorem own_frame{base:Nat}{e:TypeId}{size:Nat}{v:Value}{n:Nat}{xs:List Value}(h:w.ownsRow base e size v n xs)(f:Frame S w w')(hn:∀g,v.ownBlock=some g->¬S g):w'.ownsRow base e size v n xs:=by
 refine⟨h.1,?_⟩
 rcases h.2 with hz|⟨g,cap,cur,hv,hb,hg,rest⟩
 ·exact Or.inl hz
 ·exact Or.inr ⟨g,cap,cur,hv,hb,(f.block g (lt_of_block hg) (hn g (by rw[hv];rfl))).trans hg,rest⟩
theorem own_type{base:Nat}{e:TypeId}{size:Nat}{v:Value}{n g:Nat}{xs:List Value}(h:w.ownsRow base e size v n xs)(hg:v.ownBlock=some g):∃cur,Blk g cur e w:=by
 rcases h.2 with⟨hz,_⟩|⟨g',cap,cur,hv,hb,hgg,rest⟩
 ·rw[hz]at hg;cases hg
 ·rw[hv]at hg
  have:g'=g:=by simpa[Value.ownBlock]using hg
  exact⟨cur,by rw[<-this];exact hgg⟩
theorem blk_type{g:Nat}{a b:Array Value}{s t:TypeId}(h:Blk g a s w)(k:Blk g b t w):s=t:=by
 have h1:w.heap[g]?=some (.cells a s (0,0)):=h;have h2:w.heap[g]?=some (.cells b t (0,0)):=k;rw[h1]at h2;injection h2 with h2
 injection h2
theorem own_ne{base base':Nat}{e e':TypeId}{size size':Nat}{v v':Value}{n n' g:Nat}{xs xs':List Value}(h:w.ownsRow base e size v n xs)(h':w.ownsRow base' e' size' v' n' xs')(hne:e≠e')(hg:v.ownBlock=some g):v'.ownBlock≠some g:=by
 intro hg';obtain⟨c,hc⟩:=own_type h hg;obtain⟨c',hc'⟩:=own_type h' hg';exact hne (blk_type hc hc')
theorem own_far{base:Nat}{e:TypeId}{size:Nat}{v:Value}{n:Nat}{xs:List Value}(h:w.ownsRow base e size v n xs){k:Nat}(hn:v.ownBlock≠some k)(o:Nat)(u:Value):(w.setCell ⟨k,o,none⟩ u).ownsRow base e size v n xs:=
 own_frame (S:=fun x=>x=k) h ((Frame.refl (fun x=>x=k) w).set (g:=k) (Or.inl rfl) o u) (fun g hg e=>hn (by rw[hg];exact congrArg some e))
end
end H
end
section
open Go.RowKit
namespace H
def setL(xs:List Value):Nat->List Value->List Value
 |_,[]=>xs
 |k,v :: l=>setL (xs.set k v) (k+1) l
theorem setL_eq:∀(vs xs:List Value) (k:Nat),k+vs.length<=xs.length->setL xs k vs=xs.take k++vs++xs.drop (k+vs.length)
 |[],xs,k,_=>by simp[setL]
 |v :: l,xs,k,h=>by
  rw[List.length_cons]at h;rw[setL,setL_eq l (xs.set k v) (k+1) (by rw[List.length_set];omega),List.length_cons];have e1:(xs.set k v).take (k+1)=xs.take k++[v]:=by
   rw[List.take_succ_eq_append_getElem (by rw[List.length_set];omega),List.getElem_set_self,List.take_set_of_le (Nat.le_refl _)]
  have e2:(xs.set k v).drop (k+1+l.length)=xs.drop (k+(l.length+1)):=by
   rw[List.drop_set_of_lt (by omega)]
   congr 1
   omega
  rw[e1,e2];simp
section
variable {w w0:World} {base:Nat} {e:TypeId} {size:Nat} {g n cap:Nat} {xs:List Value}
theorem ownsRow_setCells:∀(vs:List Value) (k:Nat) (w:World) (xs:List Value),w.ownsRow base e size (.slice (some ⟨g,0,none⟩) n cap) n xs->(w.setCells g k vs).ownsRow base e size (.slice (some ⟨g,0,none⟩) n cap) n (setL xs k vs)
 |[],_,_,_,h=>h
 |v :: l,k,w,xs,h=>ownsRow_setCells l (k+1) _ _ (ownsRow_set h k v)
theorem frame_setCells{S:Nat->Prop}:∀(vs:List Value) (k:Nat) (w:World),Frame S w0 w->(S g\/w0.heap.size<=g)->Frame S w0 (w.setCells g k vs)
 |[],_,_,h,_=>h
 |v :: l,k,w,h,hg=>frame_setCells l (k+1) _ (h.set hg k v) hg
theorem far_setCells{b:Nat}{cs:Array Value}{t:TypeId}(hne:b≠g):∀(vs:List Value) (k:Nat) (w:World),Blk b cs t w->Blk b cs t (w.setCells g k vs)
 |[],_,_,h=>h
 |v :: l,k,w,h=>far_setCells hne l (k+1) _ (h.far hne k v)
theorem own_setCells{B:Nat}{e':TypeId}{size' n':Nat}{v':Value}{xs':List Value}(hn:v'.ownBlock≠some g)(vs:List Value)(k:Nat)(w:World)(h:w.ownsRow B e' size' v' n' xs'):(w.setCells g k vs).ownsRow B e' size' v' n' xs':=
 own_frame (S:=fun x=>x=g) h (frame_setCells vs k w (Frame.refl _ w) (Or.inl rfl)) (fun g' hg' e=>hn (by rw[hg',e]))
end
section
variable {α:Type} {c:α->List Value} {w:World} {base:Nat} {e:TypeId} {size:Nat} {g cap:Nat} {l:List α}
theorem flat_take(hc:∀x,(c x).length=size):∀(l:List α) (i:Nat),(l.flatMap c).take (i*size)=(l.take i).flatMap c
 |[],i=>by simp
 |x :: l,0=>by simp
 |x :: l,i+1=>by
  rw[List.flatMap_cons,List.take_succ_cons,List.flatMap_cons,List.take_append,hc];have e1:(i+1)*size-size=i*size:=by rw[Nat.succ_mul];omega
  have e2:(c x).take ((i+1)*size)=c x:=List.take_of_length_le (by rw[hc,Nat.succ_mul];omega);rw[e1,e2,flat_take hc l i]
theorem flat_drop(hc:∀x,(c x).length=size):∀(l:List α) (i:Nat),(l.flatMap c).drop (i*size)=(l.drop i).flatMap c
 |[],i=>by simp
 |x :: l,0=>by simp
 |x :: l,i+1=>by
  rw[List.flatMap_cons,List.drop_succ_cons,List.drop_append,hc];have e1:(i+1)*size-size=i*size:=by rw[Nat.succ_mul];omega
  have e2:(c x).drop ((i+1)*size)=[]:=List.drop_eq_nil_of_le (by rw[hc,Nat.succ_mul];omega);rw[e1,e2,List.nil_append,flat_drop hc l i]
theorem flat_setL(hc:∀x,(c x).length=size){i:Nat}(hi:i<l.length)(x:α):setL (l.flatMap c) (i*size) (c x)=(l.set i x).flatMap c:=by
 have hle:(i+1)*size<=l.length*size:=Nat.mul_le_mul_right _ hi;have e1:i*size+(c x).length=(i+1)*size:=by rw[hc,Nat.succ_mul]
 rw[setL_eq _ _ _ (by rw[flat_len hc,e1];exact hle),e1,flat_take hc,flat_drop hc,List.set_eq_take_append_cons_drop,if_pos hi,List.flatMap_append,List.flatMap_cons,List.append_assoc]
theorem RecRow.put(hc:∀x,(c x).length=size)(h:RecRow c base e size w (.slice (some ⟨g,0,none⟩) l.length cap) l){i:Nat}(hi:i<l.length)(x:α) :
  RecRow c base e size (w.setCells g (i*size) (c x)) (.slice (some ⟨g,0,none⟩) (l.set i x).length cap) (l.set i x):=by
 have h1:=ownsRow_setCells (c x) (i*size) w _ h;rw[flat_setL hc hi]at h1;unfold RecRow;rw[List.length_set];exact h1
theorem own_form{B:Nat}{e':TypeId}{size' n':Nat}{v':Value}{xs':List Value}(h:w.ownsRow B e' size' v' n' xs'):∃ao cap,v'=.slice ao n' cap:=by
 rcases h.2 with⟨h1,h2⟩|⟨g,cap,cur,h1,_⟩
 ·exact⟨none,0,by rw[h1,h2]⟩
 ·exact⟨_,cap,h1⟩
theorem own_some{B:Nat}{e':TypeId}{size' n':Nat}{v':Value}{xs':List Value}(h:w.ownsRow B e' size' v' n' xs')(hn:0<n'):∃g cap,v'=.slice (some ⟨g,0,none⟩) n' cap/\B<=g/\g<w.heap.size/\n'<=cap:=by
 rcases h.2 with⟨h1,h2⟩|⟨g,cap,cur,h1,hb,hg,hnc,_⟩
 ·omega
 ·exact⟨g,cap,h1,hb,lt_of_block hg,hnc⟩
theorem ownsRow_cut{xs:List Value}{n k:Nat}(h:w.ownsRow base e size (.slice (some ⟨g,0,none⟩) n cap) n xs)(hk:k<=n):w.ownsRow base e size (.slice (some ⟨g,0,none⟩) k cap) k (xs.take (k*size)):=by
 have h1:=h.1;have hle:k*size<=n*size:=Nat.mul_le_mul_right _ hk;refine⟨by rw[List.length_take,h1];omega,?_⟩
 rcases h.2 with⟨hv,_⟩|⟨g',cap',cur,hv,hb,hg,hn,hm,hcs,ht⟩
 ·cases hv
 ·simp only[Value.slice.injEq,Option.some.injEq,Addr.mk.injEq,and_true,true_and]at hv
  obtain⟨rfl,rfl⟩:=hv;exact Or.inr ⟨g,cap,cur,rfl,hb,hg,by omega,hm,hcs,by rw[<-ht,List.take_take,Nat.min_eq_left hle]⟩
end
end H
end
section
open Go.RowKit
namespace T
theorem string_own{W:World}{base:Nat}{v:Value}{l:List UInt8}(h:W.ownsRow base 5 1 v l.length (Lib.byteCells l)) :
  (convert 118 9 v).run Tryz.prog W=.ok (.string ⟨l.toArray⟩) W:=by
 rcases h.2 with⟨rfl,h0⟩|⟨g,cap,cur,rfl,hb,hg,_,_,hcs,htk⟩
 ·have:l=[]:=List.eq_nil_of_length_eq_zero h0
  subst this;exact Lib.run_convert_nil_bytes W 118 9 5 0 Tryz.underlying118 Tryz.underlying5 Tryz.underlying9
 ·refine run_convert_bytes_back W 118 9 5 ⟨g,0,none⟩ cap l Tryz.underlying118 Tryz.underlying5 Tryz.underlying9 (Lib.bytes_of_row (l:=l) hg (by simpa using htk))
theorem extract_list(s:ByteArray)(k n:Nat)(h:k+n<=s.size):(s.extract k (k+n)).data.toList=(s.data.toList.drop k).take n:=by
 rw[Lib.extract_data,Nat.add_sub_cancel_left]
def RepRel(s:ByteArray)(w:World)(v i:Value)(wr:World):Prop:=
 ∃(k:Nat) (acc:List UInt8),k<=s.size/\i=.int .i64 k/\wr.ownsRow w.heap.size 5 1 v acc.length (Lib.byteCells acc)/\Below w.heap.size w wr/\Hid (acc++U.rep (s.data.toList.drop k)=U.rep s.data.toList)/\acc.length<=3*k
theorem refRepair(s:ByteArray)(w:World)(hs:s.size<=1000000) :
  Calls Tryz.prog 113 #[.string s] w fun e w'=>e=.returned (.string ⟨(U.rep s.data.toList).toArray⟩)/\Below w.heap.size w w':=by
 obtain⟨i0,hi,hz0,hz1,hz2⟩:=info_parts Bld.infoByte
 go_enter Tryz.func113,Tryz.ntmps113
 go_wp2_with fail
 go_loopw [3,4] (fun v i wr=>RepRel s w v i wr) (fun _ i _=>s.size-(Go.RowKit.intOf i).toNat)
 case atStart=>exact⟨0,[],Nat.zero_le _,rfl,World.ownsRow_nil _ _ _ _,Below.refl _ _,hi_ rfl,Nat.zero_le _⟩
 case round=>
  obtain⟨k,acc,hk,rfl,hown,hB,HA,hal⟩:=hrel;have hbs:=hB.size
  by_cases hlt:k<s.size
  ·have hne:s.data.toList.drop k≠[]:=by rw[drop_cons s k hlt];exact List.cons_ne_nil _ _
   have HN:=hi_ (U.rep_cons _ hne);clear hne;have hle:=U.sz_le (s.data.toList.drop k);rw[List.length_drop,U.list_size]at hle
   by_cases h0:U.sz (s.data.toList.drop k)=0
   ·have HZ:=hi_ h0
    have hc:∀W,Calls Tryz.prog 105 #[.string s,.int .i64 k] W fun e w'=>e=.returned (.int .i64 0)/\W=w':=fun W=>by
     have:=refSize s (k:Int) W (by omega) (by omega) (by omega);rw[Int.toNat_natCast,h0]at this;exact this
    have HC:=hi_ hc;clear h0 hle hc;go_wp2_with (first|(go_at_call 105;refine(HC.out _).mono ?_;rintro e w' ⟨rfl,rfl⟩)|(at_builtin;refine wpList_append_own _ rfl _ _ 118 rfl w.heap.size 5 i0 (.int .u8 0) 1 1 Tryz.underlying118 hi hz0 hz1 hz2 rfl (by decide) _ _ _ rfl (hown.alloc _) ⟨wr.heap.size,0,none⟩ 3 3 [.int .u8 239,.int .u8 191,.int .u8 189] rfl rfl ?c1 ?c2 ?c3 ?c4 ?c5 ?_))
    case c1=>
     intro j u hj
     match j,hj with
     |0,hj=>simp at hj;subst hj;simp[Addr.add]
     |1,hj=>simp at hj;subst hj;simp[Addr.add]
     |2,hj=>simp at hj;subst hj;simp[Addr.add]
    case c2=>intro u hu;simp at hu;rcases hu with rfl|rfl|rfl<;>rfl
    case c3=>unfold maxLen;omega
    case c4=>omega
    case c5=>simp;omega
    intro v' w2 hown' hgrow _;have hB2:=(hB.alloc hbs (.cells #[.int .u8 239,.int .u8 191,.int .u8 189] 5)).grown hgrow (by simp;omega) (fun q hq=>(hown.lt q hq).1);go_wp2_with fail
    go_roundw
    case rel=>
     refine⟨k+1,acc++[239,191,189],by omega,by go_num,?_,hB2,hi_ ?_,by simp;omega⟩
     ·rw[Lib.byteCells_append,show Lib.byteCells [239,191,189]=[.int .u8 239,.int .u8 191,.int .u8 189]from rfl];simpa using hown'
     ·have h3:=HA.out
      rw[HN.out]at h3;unfold U.chunk U.adv at h3;rw[if_pos HZ.out,if_pos HZ.out,List.drop_drop,<-List.append_assoc]at h3;exact h3
    case measure=>simp[Go.RowKit.intOf];omega
   ·have HZ:=hi_ h0
    have hc:∀W,Calls Tryz.prog 105 #[.string s,.int .i64 k] W fun e w'=>e=.returned (.int .i64 (U.sz (s.data.toList.drop k)))/\W=w':=fun W=>by
     have:=refSize s (k:Int) W (by omega) (by omega) (by omega);rw[Int.toNat_natCast]at this;exact this
    have h4:=U.sz_le4 (s.data.toList.drop k);generalize hm:U.sz (s.data.toList.drop k)=m at *;have HM:=hi_ hm;have HC:=hi_ hc;have hpos:0<m:=by omega
    have t0:((m:Int)==0)=false:=beq_eq_false_iff_ne.2 (by omega);clear hc hm h0;have hse:(s.extract k (k+m)).size=m:=by rw[<-U.list_size,extract_list s k m (by omega)];simp;omega
    have HS:=hi_ hse;clear hse;have hkm:k+m<=s.size:=by omega
    have hkm':(k:Int)+(m:Int)<=(s.size:Int):=by omega
    go_wp2_with (first|(go_at_call 105;refine(HC.out _).mono ?_;rintro e w' ⟨rfl,rfl⟩)|(at_builtin;refine Lib.wpList_append_own_string _ rfl _ _ 118 9 rfl w.heap.size 5 i0 Tryz.underlying118 Tryz.underlying9 hi hz0 hz1 hz2 _ _ _ rfl hown (s.extract k (k+m)) rfl ?c3 ?c4 ?c5 ?_))
    case c3=>rw[HS.out];unfold maxLen;omega
    case c4=>rw[HS.out];omega
    case c5=>omega
    intro v' w2 hown' hgrow _;have hB2:=hB.grown hgrow hbs (fun q hq=>(hown.lt q hq).1);rw[Lib.strCells_eq,extract_list s k m (by omega)]at hown';go_wp2_with fail
    go_roundw
    case rel=>
     refine⟨k+m,acc++(s.data.toList.drop k).take m,by omega,by go_num,?_,hB2,hi_ ?_,by simp;omega⟩
     ·rw[Lib.byteCells_append]
      have:(acc++(s.data.toList.drop k).take m).length=acc.length+m:=by simp;omega
      rw[this];exact hown'
     ·have h3:=HA.out
      rw[HN.out]at h3;unfold U.chunk U.adv at h3;rw[HM.out,if_neg HZ.out,if_neg HZ.out,List.drop_drop,<-List.append_assoc]at h3;exact h3
    case measure=>simp[Go.RowKit.intOf];omega
  ·have hback:=string_own hown
   have h3:=HA.out;rw[drop_end s k hlt,U.rep_nil,List.append_nil]at h3;rw[h3]at hback;have HBk:=hi_ hback;clear h3;go_wp2_with fail
   go_ret
   exact⟨rfl,hB⟩
end T
end
section
namespace G
theorem idx_put_new{h:Nat}:∀{l:List Nat} {i:Nat},h∉l->i<=l.length->(l.take i++h :: l.drop i).idxOf h=i
 |l,0,_,_=>by simp[List.idxOf_cons]
 |[],i+1,_,hi=>by simp at hi
 |a :: l,i+1,hn,hi=>by
  rw[List.mem_cons,not_or]at hn;have e:(a==h)=false:=beq_eq_false_iff_ne.2 (fun e=>hn.1 e.symm);rw[List.take_succ_cons,List.drop_succ_cons,List.cons_append,List.idxOf_cons,e,idx_put_new hn.2 (by simpa using hi)];rfl
theorem WF.all_nodup{m:Model}(W:WF m)(h:Nat):(all m h).Nodup:=by
 refine List.Pairwise.imp ?_ (W.all_sorted h);intro p q hpq e;subst e;rw[cmpL_self]at hpq;exact absurd hpq (by decide)
theorem flat_const{α β:Type}(l:List α)(f:α->List β)(n:Nat)(h:∀a,a∈l->(f a).length=n):(l.flatMap f).length=l.length*n:=by
 induction l with
 |nil=>simp
 |cons a t ih=>
  rw[List.flatMap_cons,List.length_append,h a (by simp),ih (fun b hb=>h b (by simp[hb])),List.length_cons,Nat.succ_mul];omega
theorem WF.all_len{m:Model}(W:WF m){S:Nat}(hS:∀i,sizeOf m i<=S)(h:Nat)(hl:h<m.length):(all m h).length<=m.length*(S+1):=by
 have h1:(all m h).length<=((List.range m.length).flatMap fun i=>(List.range (S+1)).map fun j=>(i,j)).length:=List.Nodup.length_le_of_subset (W.all_nodup h) (fun q hq=>by
  obtain⟨_,h2,h3⟩:=(W.mem_all h hl).1 hq;exact List.mem_flatMap.2 ⟨q.1,List.mem_range.2 h2,List.mem_map.2 ⟨q.2,List.mem_range.2 (by have:=hS q.1;omega),rfl⟩⟩)
 rwa [flat_const _ _ (S+1) (fun a _=>by simp),List.length_range]at h1
def allTo(m:Model)(h i:Nat):List (Nat×Nat):=(List.range i).flatMap fun i=>(h,i) :: inside m (all m) h i
theorem allTo_succ(m:Model)(h i:Nat):allTo m h (i+1)=(allTo m h i++[(h,i)])++inside m (all m) h i:=by
 unfold allTo;rw[List.range_succ,List.flatMap_append];simp
theorem WF.all_to{m:Model}(W:WF m)(h:Nat):all m h=allTo m h (sizeOf m h+1):=W.all_eq h
theorem WF.allTo_len{m:Model}(W:WF m)(h i:Nat)(hi:i<=sizeOf m h+1):(allTo m h i).length<=(all m h).length:=by
 rw[W.all_to h];obtain⟨k,hk⟩:=Nat.le.dest hi;rw[<-hk];clear hi hk
 induction k with
 |zero=>exact Nat.le_refl _
 |succ k ih=>
  rw[<-Nat.add_assoc,allTo_succ,List.length_append,List.length_append];omega
end G
end
section
namespace U
theorem chunks_mem:∀(n:Nat) (l:List UInt8) (c:List UInt8),c∈chunks n l->∃l',l'≠[]/\c=chunk l'
 |0,l,c,h=>by unfold chunks at h;simp at h
 |n+1,[],c,h=>by unfold chunks at h;simp at h
 |n+1,x :: l,c,h=>by
  unfold chunks at h
  rcases List.mem_cons.1 h with e|h
  ·exact⟨x :: l,by simp,e⟩
  ·exact chunks_mem n _ c h
theorem pts_mem{l c:List UInt8}(h:c∈pts l):∃l',l'≠[]/\c=chunk l':=chunks_mem _ _ _ h
theorem pts_flat:∀(L:List (List UInt8)),(∀c∈L,∃l',l'≠[]/\c=chunk l')->pts L.flatten=L
 |[],_=>rfl
 |c :: L,h=>by
  obtain⟨l,hl,rfl⟩:=h c (List.mem_cons_self ..);rw[List.flatten_cons,pts_cons _ (ne_nil_chunk l _ hl),chunk_chunk l _ hl,adv_chunk l _ hl,List.drop_left,pts_flat L (fun d hd=>h d (List.mem_cons_of_mem _ hd))]
def splice(d s:List UInt8)(i c:Nat):List UInt8:=((pts d).take i).flatten++rep s++((pts d).drop (i+c)).flatten
theorem pts_splice(d s:List UInt8)(i c:Nat):pts (splice d s i c)=(pts d).take i++pts s++(pts d).drop (i+c):=by
 have e:splice d s i c=((pts d).take i++pts s++(pts d).drop (i+c)).flatten:=by
  unfold splice rep;rw[List.flatten_append,List.flatten_append]
 rw[e];refine pts_flat _ fun x hx=>?_
 rcases List.mem_append.1 hx with hx|hx
 ·rcases List.mem_append.1 hx with hx|hx
  ·exact pts_mem (List.mem_of_mem_take hx)
  ·exact pts_mem hx
 ·exact pts_mem (List.mem_of_mem_drop hx)
theorem rep_splice(d s:List UInt8)(i c:Nat):rep (splice d s i c)=splice d s i c:=by
 unfold rep;rw[pts_splice,List.flatten_append,List.flatten_append];rfl
end U
namespace G
def setData(m:Model)(h:Nat)(d:Bytes):Model:=upd m h fun x=>{ x with data:=d }
end G
end
section
namespace G
theorem refCmp_zero{m:Model}(W:WF m){a b:Nat×Nat}(ha:PtOk m a)(hb:PtOk m b)(ht:top m a.1=top m b.1)(h:lcmp m a b=0):a=b:=by
 have ma:a∈all m (top m a.1):=(W.mem_all _ (W.top_lt _ ha.1)).2 ⟨W.top_contains _,ha⟩;have mb:b∈all m (top m a.1):=(W.mem_all _ (W.top_lt _ ha.1)).2 ⟨by rw[ht];exact W.top_contains _,hb⟩;have la:=List.idxOf_lt_length_of_mem ma;have lb:=List.idxOf_lt_length_of_mem mb;have ga:=List.getElem_idxOf la;have gb:=List.getElem_idxOf lb;have hs:=W.all_sorted (top m a.1);rw[List.pairwise_iff_getElem]at hs;rw[lcmp_code W ht]at h
 rcases Nat.lt_trichotomy ((all m (top m a.1)).idxOf a) ((all m (top m a.1)).idxOf b)with hl|hl|hl
 ·have h2:=hs _ _ la lb hl
  rw[ga,gb,h]at h2
  cases h2
 ·have e:(all m (top m a.1))[(all m (top m a.1)).idxOf a]'la=(all m (top m a.1))[(all m (top m a.1)).idxOf b]'lb:=by congr 1
  rw[ga,gb]at e;exact e
 ·have h2:=hs _ _ lb la hl
  rw[ga,gb]at h2;have h3:=cmpL_eq h;rw[h3,cmpL_self]at h2
  cases h2
theorem lcmp_self(m:Model)(a:Nat×Nat):lcmp m a a=0:=by
 unfold lcmp;rw[if_pos rfl];simp
end G
end
end Go.Proofs.YtinphfpdfodkkaaGreatDoor
