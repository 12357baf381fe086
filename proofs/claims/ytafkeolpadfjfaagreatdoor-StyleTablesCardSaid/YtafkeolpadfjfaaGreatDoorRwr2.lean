/- The text of a part. The text of a part, whatever its tests. What the writing functions of the reference come to: number, quote. What the writing functions of the reference come to: test. -/
import Derived.Test.YtafkeolpadfjfaaGreatDoorFmt2
import Derived.Lib.Join
import Derived.Test.YtafkeolpadfjfaaGreatDoorRsl13
set_option linter.unusedVariables false
set_option linter.unusedSimpArgs false
namespace Go.Proofs.YtafkeolpadfjfaaGreatDoor
open Go.RowKit Go.Sort
namespace K
open H
set_option maxHeartbeats 4000000 in
set_option maxRecDepth 100000 in
theorem part_text_gen (E : World → Prop) (hEb : ∀ {w w' : World}, E w → Below w.heap.size w w' → E w') (j : Int) (ty : List UInt8) (v : Value) (l : List L.Test) (w : World) (S : Nat → Prop) (hT : TestsAt S w v l) (hl : l.length ≤ 1000000) (hsz : (L.fTests ty l).length ≤ 1000000000) (hE : E w)
  (hTF : ∀ t ∈ l, ∀ (nv : Value) (W : World), ITest S W nv t → E W → Calls Tryz.prog 95 #[tval t.t nv] W (TextPost (L.fTest t) W)) :
  Calls Tryz.prog 56 #[.agg #[.int .i64 j, .string ⟨ty.toArray⟩, v]] w (TextPost (L.fTests ty l) w) := by
 have HT := Lib.hid hT
 have HE := Lib.hid hE
 have HTF := Lib.hid hTF
 obtain ⟨ao, cap, hv⟩ := hT.form
 have zt := bytes_size ty
 have HQ : Hid (L.fTests ty l = if ty = [] ∧ l = [] then [42] else ty ++ (l.map L.fTest).flatten) := Lib.hid (by
  unfold L.fTests L.fpart; simp)
 have HSz := Lib.hid hsz
 generalize hNN : l.length = N at hv hl
 have HN := Lib.hid hNN
 subst hv
 generalize L.fTests ty l = q at *
 have HB0 : Hid (Below w.heap.size w (w.alloc (.cells #[.int .i64 j, .string ⟨ty.toArray⟩, .slice ao N cap] 101))) := Lib.hid ((Below.refl _ w).alloc (Nat.le_refl _) _)
 by_cases hem : ty = [] ∧ l = []
 ·have HV : Hid (q = [42]) := Lib.hid (by rw [HQ.out, if_pos hem])
  obtain ⟨rfl, h2⟩ := hem
  obtain rfl : N = 0 := by rw [← hNN, h2]; rfl
  clear hT hE hTF hsz hNN h2 HTF HT HQ HSz
  go_enter Tryz.func56, Tryz.ntmps56
  go_wp2_with fail
  go_ret
  exact ⟨ret_str (by rw [HV.out]), HB0.out⟩
 ·have HV : Hid (q = ty ++ (l.map L.fTest).flatten) := Lib.hid (by rw [HQ.out, if_neg hem])
  have hc : (ty == []) = false ∨ (ty = [] ∧ ((N : Int) == 0) = false) := by
   by_cases h : ty = []
   ·right
    exact ⟨h, by rw [beq_eq_false_iff_ne]; intro h0; exact hem ⟨h, List.eq_nil_of_length_eq_zero (by omega)⟩⟩
   ·left
    simpa using h
  have hall : ty.length + (l.map L.fTest).flatten.length ≤ 1000000000 := by have h := HSz.out; rw [HV.out, List.length_append] at h; exact h
  have HAll := Lib.hid hall
  clear hT hE hTF hsz hNN hem HQ hall
  have H0 : Hid (ty = ty ++ ((l.take 0).map L.fTest).flatten) := Lib.hid (by simp)
  rcases hc with hc | ⟨hc, he⟩
  case' inr => subst hc
  all_goals
   go_enter Tryz.func56, Tryz.ntmps56
   go_wp2_with fail
   go_loopw [3, 20] (fun v3 v20 wr => ∃ k : Nat, v20 = .int .i64 k ∧ (∃ acc : List UInt8, v3 = .string ⟨acc.toArray⟩ ∧ Hid (q = acc ++ ((l.drop k).map L.fTest).flatten)) ∧ k ≤ N ∧ Hid (Below w.heap.size w wr)) (fun _ v20 _ => N - (intOf v20).toNat)
   case atStart => exact ⟨0, rfl, ⟨_, rfl, HV⟩, Nat.zero_le _, HB0⟩
   case round =>
    obtain ⟨k, rfl, ⟨acc, rfl, HA⟩, hk, HB⟩ := hrel
    clear HB0 H0
    by_cases hkN : k < N
    ·have hkl : k < l.length := by rw [HN.out]; exact hkN
     have hkI : (k : Int) < (N : Int) := by omega
     have hsl := keeps_tests HT.out (Kept.below HB.out)
     cases ao with
     | none => exact absurd (ListAt.none_ hsl) (by intro h; rw [h] at hkl; simp at hkl)
     | some aa =>
      obtain ⟨g, hg⟩ : ∃ g, aa = ⟨g, 0, none⟩ := by
       obtain ⟨ps, h1, h2, h3⟩ := hsl
       rcases h2 with ⟨hv, hn⟩ | ⟨g, cap', hv, _⟩
       ·cases hv
       ·simp only [Value.slice.injEq, Option.some.injEq] at hv
        exact ⟨g, hv.1⟩
      subst hg
      obtain ⟨hlt, hnl, hsS, vk, hc, hp⟩ := ListAt.at_ cTest_len hsl hkl
      clear hnl hsS
      have hsplit : ((l.drop k).map L.fTest).flatten = L.fTest l[k] ++ ((l.drop (k + 1)).map L.fTest).flatten := by
       rw [List.drop_eq_getElem_cons hkl, List.map_cons, List.flatten_cons]
      have HA2 := Lib.hid (HA.out.trans (by rw [hsplit, ← List.append_assoc]))
      have hmem := List.getElem_mem hkl
      have hlen : acc.length + (L.fTest l[k]).length ≤ 1000000000 := by
       have h1 := HSz.out
       rw [HA2.out, List.length_append, List.length_append] at h1
       omega
      clear hsplit HA hsl
      generalize l[k] = tk at *
      have hp2 : NotsAt S wr vk tk.nots := hp
      obtain ⟨ak, ck, hvk⟩ := hp2.form
      generalize tk.nots.length = nk at hvk
      clear hp2
      have hl1 : (L.fTest tk).length ≤ 1000000000 := by omega
      have Q := Lib.hid (fun W => HTF.out tk hmem vk W)
      have HIp := Lib.hid hp
      obtain ⟨⟨kk, nm, vl, ka, kb⟩, nts⟩ := tk
      have c0 : wr.cell? ⟨g, k * 6 + 0, none⟩ = some (.int .i64 kk) := hc 0 (by omega)
      have c1 : wr.cell? ⟨g, k * 6 + 1, none⟩ = some (.string ⟨nm.toArray⟩) := hc 1 (by omega)
      have c2 : wr.cell? ⟨g, k * 6 + 2, none⟩ = some (.string ⟨vl.toArray⟩) := hc 2 (by omega)
      have c3 : wr.cell? ⟨g, k * 6 + 3, none⟩ = some (.int .i64 ka) := hc 3 (by omega)
      have c4 : wr.cell? ⟨g, k * 6 + 4, none⟩ = some (.int .i64 kb) := hc 4 (by omega)
      have c5 : wr.cell? ⟨g, k * 6 + 5, none⟩ = some vk := hc 5 (by omega)
      simp only [Nat.add_zero] at c0
      subst hvk
      generalize L.fTest ⟨⟨kk, nm, vl, ka, kb⟩, nts⟩ = ft at *
      have zf := bytes_size ft
      have za := bytes_size acc
      have hB2 : Below wr.heap.size wr (wr.alloc (.cells #[.int .i64 kk, .string ⟨nm.toArray⟩, .string ⟨vl.toArray⟩, .int .i64 ka, .int .i64 kb, .slice ak nk ck] 146)) := (Below.refl _ wr).alloc (Nat.le_refl _) _
      have HE2 := Lib.hid (hEb (hEb HE.out HB.out) hB2)
      have HI2 := Lib.hid (keeps_test HIp.out (Kept.below hB2))
      have HBn := Lib.hid (HB.out.trans (hB2.mono HB.out.size))
      have Q2 := Lib.hid (Q.out _ HI2.out HE2.out)
      unfold tval tcells at Q2
      clear hc hp hmem Q hB2 HI2 HE2 HIp hkl hl1
      go_wp2_with fail
      refine Q2.out.mono ?_
      rintro e w2 ⟨rfl, hb2⟩
      have HB2 := Lib.hid (HBn.out.trans (hb2.mono HBn.out.size))
      clear hb2 Q2 HBn c0 c1 c2 c3 c4 c5
      go_wp2_with fail
      go_roundw
      case rel =>
       exact ⟨k + 1, by go_num, ⟨acc ++ ft, congrArg Value.string (append_bytes acc ft), HA2⟩, by omega, HB2⟩
      case measure => simp [intOf]; omega
    ·obtain rfl : k = N := by omega
     have HA2 : Hid (q = acc) := Lib.hid (by
      have h := HA.out
      rw [← HN.out, List.drop_length] at h
      simpa using h)
     clear HA
     go_wp2_with fail
     go_ret
     exact ⟨ret_str (by rw [HA2.out]), HB.out⟩
end K
end Go.Proofs.YtafkeolpadfjfaaGreatDoor
namespace Go.Proofs.YtafkeolpadfjfaaGreatDoor
open Go.RowKit Go.Sort
namespace K
open H
def TestOk (t : L.Test) : Prop := TstOk t.t ∧ (∀ u ∈ t.nots, TstOk u) ∧ t.nots.length ≤ 1000000
def PartOk (p : L.Part) : Prop := (∀ t ∈ p.tests, TestOk t) ∧ p.tests.length ≤ 1000000 ∧ p.join ≤ 4
def SelOk (ps : List L.Part) : Prop := (∀ p ∈ ps, PartOk p) ∧ ps.length ≤ 1000000
theorem NotsAt.tests {S : Nat → Prop} {w : World} {v : Value} {l : List L.Tst} (h : NotsAt S w v l) : TestsAt S w v (l.map (fun t => ⟨t, []⟩)) := by
 obtain ⟨ps, rfl, h2, h3⟩ := h
 refine ⟨ps.map (fun p => (⟨p.1, []⟩, p.2)), by simp, ?_, ?_⟩
 ·rw [List.flatMap_map]
  simpa [cTest] using h2
 ·intro p hp
  obtain ⟨q, hq, rfl⟩ := List.mem_map.1 hp
  have h4 := h3 q hq
  show NotsAt S w q.2 []
  dsimp only at h4
  rw [h4]
  exact ListAt.nil
theorem len_flat {α : Type} (f : α → List UInt8) {l : List α} {x : α} (h : x ∈ l) : (f x).length ≤ (l.map f).flatten.length := by
 induction l with
 | nil => cases h
 | cons y r ih =>
  rw [List.map_cons, List.flatten_cons, List.length_append]
  rcases List.mem_cons.1 h with rfl | h
  ·omega
  ·have := ih h; omega
theorem le_fpart (ty : List UInt8) (fs : List (List UInt8)) : fs.flatten.length ≤ (L.fpart ty fs).length := by
 unfold L.fpart
 split
 ·rename_i h; rw [h.2]; simp
 ·rw [List.length_append]; omega
theorem len_test {ty : List UInt8} {l : List L.Test} {t : L.Test} (h : t ∈ l) : (L.fTest t).length ≤ (L.fTests ty l).length := Nat.le_trans (len_flat L.fTest h) (le_fpart ty _)
theorem len_fpart {t : L.Tst} (fs : List (List UInt8)) (h : t.kind = 14) : (L.fpart t.name fs).length ≤ (L.ftest t fs).length := by
 unfold L.ftest
 rw [if_neg (by omega), if_neg (by omega), if_neg (by omega), if_neg (by omega), if_neg (by omega), if_neg (by omega), if_neg (by omega), if_pos h]
 simp
 omega
theorem fList_join : ∀ l : List (List L.Part), L.fList l = Lib.join (l.map L.fSel) [44, 32]
 | [] => rfl
 | [x] => by simp [L.fList, Lib.join, List.intercalate]
 | x :: y :: r => by
  have ih := fList_join (y :: r)
  unfold L.fList
  rw [ih, List.map_cons, List.map_cons, Lib.join_cons, Lib.join_cons]
  simp [Lib.joinTail]
theorem len_sel {l : List (List L.Part)} {x : List L.Part} (h : x ∈ l) : (L.fSel x).length ≤ (L.fList l).length := by
 induction l with
 | nil => cases h
 | cons y r ih =>
  cases r with
  | nil =>
   rw [List.mem_singleton.1 h]; exact Nat.le_refl _
  | cons z r =>
   unfold L.fList
   rw [List.length_append, List.length_cons, List.length_cons]
   rcases List.mem_cons.1 h with rfl | h
   ·omega
   ·have := ih h; omega
end K
end Go.Proofs.YtafkeolpadfjfaaGreatDoor
namespace Go.Proofs.YtafkeolpadfjfaaGreatDoor
open Go.RowKit Go.Sort
namespace F
open H K
theorem dec_more {u q d : Nat} (hd : d < 10) (hq : 1 ≤ q) (h : u = 10 * q + d) : Lib.decDigits u = Lib.decDigits q ++ [UInt8.ofNat (48 + d)] := by
 have e1 : u / 10 = q := by omega
 have e2 : u % 10 = d := by omega
 rw [Lib.decDigits, dif_neg (by omega), e1, e2]
theorem dec_one {u : Nat} (h : u < 10) : Lib.decDigits u = [UInt8.ofNat (48 + u)] := by rw [Lib.decDigits, dif_pos h]
theorem digit_at {d : Nat} (h : d < 10) : (⟨#[48, 49, 50, 51, 52, 53, 54, 55, 56, 57]⟩ : ByteArray).extract d (d + 1) = ⟨#[UInt8.ofNat (48 + d)]⟩ := by
 rcases (by omega : d = 0 ∨ d = 1 ∨ d = 2 ∨ d = 3 ∨ d = 4 ∨ d = 5 ∨ d = 6 ∨ d = 7 ∨ d = 8 ∨ d = 9) with rfl | rfl | rfl | rfl | rfl | rfl | rfl | rfl | rfl | rfl
 all_goals rfl
set_option maxHeartbeats 2000000 in
theorem number (n : Nat) (w : World) (hn : n ≤ 10000000000) :
  Calls Tryz.prog 174 #[.int .i64 n] w fun e w' => e = .returned (.string ⟨(Lib.decDigits n).toArray⟩) ∧ w' = w := by
 obtain ⟨D, hD⟩ : ∃ D, Lib.decDigits n = D := ⟨_, rfl⟩
 have H0 : Hid (D = Lib.decDigits n ++ []) := Lib.hid (by rw [hD]; simp)
 rw [hD]
 clear hD
 go_enter Tryz.func174, Tryz.ntmps174
 go_wp2_with fail
 go_loopw [0, 3] (fun v0 v3 wr => ∃ (m : Nat) (acc : List UInt8), v0 = .int .i64 m ∧ m ≤ n ∧ v3 = .string ⟨acc.toArray⟩ ∧ acc.length ≤ n - m ∧ Hid (D = Lib.decDigits m ++ acc) ∧ wr = w) (fun v0 _ _ => (intOf v0).toNat)
 case atStart => exact ⟨n, [], rfl, Nat.le_refl _, rfl, Nat.zero_le _, H0, rfl⟩
 case round =>
  obtain ⟨m, acc, rfl, hm, rfl, hacc, HD, rfl⟩ := hrel
  clear H0
  have za := bytes_size acc
  by_cases h10 : 10 ≤ m
  ·obtain ⟨q, d, hd, hmq⟩ : ∃ q d, d < 10 ∧ m = 10 * q + d := ⟨m / 10, m % 10, Nat.mod_lt _ (by omega), by omega⟩
   have hq1 : 1 ≤ q := by omega
   have HD2 : Hid (D = Lib.decDigits q ++ (UInt8.ofNat (48 + d) :: acc)) := Lib.hid (by rw [HD.out, dec_more hd hq1 hmq]; simp)
   have e1 : decide ((10 : Int) ≤ (m : Int)) = true := decide_eq_true (by omega)
   have e0 : (10 : Int) ≤ (m : Int) := by omega
   have e2 : (m : Int) % 10 = (d : Int) := by omega
   have e3 : (m : Int) / 10 = (q : Int) := by omega
   have e4 := digit_at hd
   have hqm : q < m := by omega
   have hq2 : q ≤ n ∧ acc.length + 1 ≤ n - q := by omega
   have hacc2 : acc.length ≤ 10000000000 := by omega
   clear hmq hacc
   go_wp2_with fail
   go_roundw
   case rel => exact ⟨q, UInt8.ofNat (48 + d) :: acc, rfl, hq2.1, congrArg Value.string (by apply ByteArray.ext; simp [ByteArray.data_append]), hq2.2, HD2, trivial⟩
   case measure => simp [intOf]; omega
  ·have hd : m < 10 := by omega
   have HD2 : Hid (D = UInt8.ofNat (48 + m) :: acc) := Lib.hid (by rw [HD.out, dec_one hd]; rfl)
   have e1 : decide ((10 : Int) ≤ (m : Int)) = false := decide_eq_false (by omega)
   have e0 : ¬ (10 : Int) ≤ (m : Int) := by omega
   have e4 := digit_at hd
   have hacc2 : acc.length ≤ 10000000000 := by omega
   clear hacc
   go_wp2_with fail
   go_ret
   exact ⟨ret_str (by rw [HD2.out]; apply ByteArray.ext; simp [ByteArray.data_append]), rfl⟩
set_option maxHeartbeats 2000000 in
theorem quote (v : List UInt8) (w : World) (hv : v.length ≤ 1000000000) :
  Calls Tryz.prog 136 #[.string ⟨v.toArray⟩] w fun e w' => e = .returned (.string ⟨(L.quoted v).toArray⟩) ∧ w = w' := by
 have zs := bytes_size v
 have HQ := Lib.hid (L.quoted.eq_1 v)
 generalize L.quoted v = q at *
 have H0 : Hid (∀ c ∈ v.take 0, c ≠ 34) := Lib.hid (fun c hc => (by simp at hc))
 go_enter Tryz.func136, Tryz.ntmps136
 go_wp2_with fail
 go_loopw [3] (fun v3 wr => ∃ k : Nat, v3 = .int .i64 k ∧ k ≤ v.length ∧ Hid (∀ c ∈ v.take k, c ≠ 34) ∧ w = wr) (fun v3 _ => v.length - (intOf v3).toNat)
 case atStart => exact ⟨0, rfl, Nat.zero_le _, H0, rfl⟩
 case round =>
  obtain ⟨k, rfl, hk, HN, rfl⟩ := hrel
  clear H0
  by_cases hkl : k < v.length
  ·have hkI : (k : Int) < (v.length : Int) := by omega
   have e1 : decide ((k : Int) < (v.length : Int)) = true := decide_eq_true hkI
   obtain ⟨c, r, hd⟩ := drop_cons hkl
   have hx := at_drop hd (by rw [bytes_size]; exact hkl)
   have hmem : c ∈ v := List.mem_of_mem_drop (by rw [hd]; simp)
   have htk : v.take (k + 1) = v.take k ++ [c] := by
    rw [List.take_succ_eq_append_getElem hkl]
    rw [List.drop_eq_getElem_cons hkl] at hd
    rw [(List.cons.inj hd).1]
   have HT := Lib.hid htk
   clear hd htk
   by_cases hc : c = 34
   ·have HV : Hid (q = 39 :: (v ++ [39])) := Lib.hid (by rw [HQ.out, if_pos (hc ▸ hmem)])
    have y1 : ((c.toNat : Int) == 34) = true := byte_is (n := 34) hc (by decide)
    clear HQ HN hc hmem HT
    go_wp2_with fail
    go_ret
    exact ⟨ret_str (by rw [HV.out]; apply ByteArray.ext; simp [ByteArray.data_append]), rfl⟩
   ·have y1 : ((c.toNat : Int) == 34) = false := byte_ne (n := 34) hc (by decide)
    have HN2 : Hid (∀ c ∈ v.take (k + 1), c ≠ 34) := Lib.hid (fun x hx => by
     rw [HT.out, List.mem_append] at hx
     rcases hx with hx | hx
     ·exact HN.out x hx
     ·rw [List.mem_singleton.1 hx]; exact hc)
    clear HN hc hmem HT
    go_wp2_with fail
    go_roundw
    case rel => exact ⟨k + 1, by go_num, by omega, HN2, trivial⟩
    case measure => simp [intOf]; omega
  ·obtain rfl : k = v.length := by omega
   have HV : Hid (q = 34 :: (v ++ [34])) := Lib.hid (by
    rw [HQ.out, if_neg]
    intro h
    exact HN.out 34 (by rw [List.take_length]; exact h) rfl)
   clear HQ HN
   go_wp2_with fail
   go_ret
   exact ⟨ret_str (by rw [HV.out]; apply ByteArray.ext; simp [ByteArray.data_append]), rfl⟩
theorem ahead_one : L.ahead 1 = [] := rfl
theorem ahead_minus : L.ahead (-1) = [45] := rfl
theorem ahead_more {a : Nat} (h : 1 < a) : L.ahead (a : Int) = Lib.decDigits a := by
 unfold L.ahead; rw [if_neg (by omega), if_neg (by omega)]; exact Lib.itoa_nonneg a
theorem ahead_less {a : Nat} (h : 1 < a) : L.ahead (-(a : Int)) = 45 :: Lib.decDigits a := by
 unfold L.ahead; rw [if_neg (by omega), if_neg (by omega)]; exact Lib.itoa_neg a (by omega)
theorem behind_no : L.behind 0 = [] := rfl
theorem behind_more {b : Nat} (h : 0 < b) : L.behind (b : Int) = 43 :: Lib.decDigits b := by
 unfold L.behind; rw [if_pos (by omega), if_neg (by omega), Lib.itoa_nonneg]; rfl
theorem behind_less {b : Nat} (h : 0 < b) : L.behind (-(b : Int)) = 45 :: Lib.decDigits b := by
 unfold L.behind; rw [if_neg (by omega), if_neg (by omega), Lib.itoa_neg b (by omega)]; rfl
set_option maxHeartbeats 4000000 in
set_option maxRecDepth 100000 in
theorem step (a b : Int) (w : World) (ha : -1000000 ≤ a) (ha2 : a ≤ 1000000) (hb : -1000000 ≤ b) (hb2 : b ≤ 1000000) :
  Calls Tryz.prog 137 #[.int .i64 a, .int .i64 b] w fun e w' => e = .returned (.string ⟨(L.stepOf a b).toArray⟩) ∧ w' = w := by
 have HV := Lib.hid (L.stepOf.eq_1 a b)
 have HNu := Lib.hid (fun (n : Nat) (h : n ≤ 1000000) (W : World) => number n W (by omega))
 have LNu : ∀ n : Nat, n ≤ 1000000 → (Lib.decDigits n).length ≤ 21 := fun n h => by
  have := Lib.itoa_length_le (n : Int) (by omega) (by omega)
  rw [Lib.itoa_nonneg] at this; exact this
 generalize L.stepOf a b = q at *
 go_enter Tryz.func137, Tryz.ntmps137
 obtain ⟨nb, hnb⟩ : ∃ nb : Nat, nb = b.natAbs := ⟨_, rfl⟩
 obtain ⟨na, hna⟩ : ∃ na : Nat, na = a.natAbs := ⟨_, rfl⟩
 have Lb := LNu nb (by omega)
 have La := LNu na (by omega)
 have zb := bytes_size (Lib.decDigits nb)
 have za := bytes_size (Lib.decDigits na)
 have Qb := Lib.hid (fun W => HNu.out nb (by omega) W)
 have Qa := Lib.hid (fun W => HNu.out na (by omega) W)
 clear LNu HNu
 by_cases h0 : a = 0
 ·have HQ : Hid (q = Lib.itoa b) := Lib.hid (by rw [HV.out, if_pos h0])
  subst h0
  rcases (by omega : b < 0 ∨ 0 ≤ b) with hbn | hbn
  ·obtain rfl : b = -(nb : Int) := by omega
   have HQ2 : Hid (q = 45 :: Lib.decDigits nb) := Lib.hid (by rw [HQ.out, Lib.itoa_neg nb (by omega)])
   have d1 : decide (-(nb : Int) < 0) = true := decide_eq_true hbn
   have g1 : IntKind.i64.wrap (- -(nb : Int)) = (nb : Int) := by rw [Int.neg_neg]; exact IntWalk.i64_in _ (by omega)
   generalize Lib.decDigits nb = D at *
   clear HV HQ hnb hna Qa za La
   go_wp2_with fail
   refine (Qb.out _).mono ?_
   rintro e w2 ⟨rfl, rfl⟩
   go_wp2_with fail
   go_ret
   exact ⟨ret_str (by rw [HQ2.out]; apply ByteArray.ext; simp [ByteArray.data_append]), rfl⟩
  ·obtain rfl : b = (nb : Int) := by omega
   have HQ2 : Hid (q = Lib.decDigits nb) := Lib.hid (by rw [HQ.out, Lib.itoa_nonneg])
   have d1 : decide ((nb : Int) < 0) = false := decide_eq_false (by omega)
   generalize Lib.decDigits nb = D at *
   clear HV HQ hnb hna Qa za La
   go_wp2_with fail
   refine (Qb.out _).mono ?_
   rintro e w2 ⟨rfl, rfl⟩
   go_wp2_with fail
   go_ret
   exact ⟨ret_str (by rw [HQ2.out]), rfl⟩
 ·have e0 : (a == 0) = false := by simpa using h0
  have HQ : Hid (q = L.ahead a ++ (110 :: L.behind b)) := Lib.hid (by rw [HV.out, if_neg h0])
  clear HV
  rcases (by omega : (a = 1) ∨ (a = -1) ∨ (1 < na ∧ a = (na : Int)) ∨ (1 < na ∧ a = -(na : Int))) with hA | hA | hA | hA
  ·rcases (by omega : (b = 0) ∨ (0 < nb ∧ b = (nb : Int)) ∨ (0 < nb ∧ b = -(nb : Int))) with hB | hB | hB
   ·subst hA
    subst hB
    have HAh := Lib.hid (ahead_one)
    have HB0 := Lib.hid (behind_no)
    clear hna hnb h0 e0
    clear Qa La za Qb Lb zb
    go_wp2_with fail
    go_ret
    exact ⟨ret_str (by rw [HQ.out, HAh.out, HB0.out]; apply ByteArray.ext; simp [ByteArray.data_append]), rfl⟩
   ·subst hA
    obtain ⟨hn2, rfl⟩ := hB
    have HAh := Lib.hid (ahead_one)
    have HB0 := Lib.hid (behind_more hn2)
    have q1 : decide ((0 : Int) < (nb : Int)) = true := decide_eq_true (by omega)
    have q2 : decide ((nb : Int) < 0) = false := decide_eq_false (by omega)
    clear hna hnb h0 e0
    clear Qa La za
    generalize Lib.decDigits nb = Db at *
    go_wp2_with fail
    refine (Qb.out _).mono ?_
    rintro e w3 ⟨rfl, rfl⟩
    go_wp2_with fail
    go_ret
    exact ⟨ret_str (by rw [HQ.out, HAh.out, HB0.out]; apply ByteArray.ext; simp [ByteArray.data_append]), rfl⟩
   ·subst hA
    obtain ⟨hn2, rfl⟩ := hB
    have HAh := Lib.hid (ahead_one)
    have HB0 := Lib.hid (behind_less hn2)
    have q1 : decide ((0 : Int) < -(nb : Int)) = false := decide_eq_false (by omega)
    have q2 : decide (-(nb : Int) < 0) = true := decide_eq_true (by omega)
    have q3 : IntKind.i64.wrap (- -(nb : Int)) = (nb : Int) := by rw [Int.neg_neg]; exact IntWalk.i64_in _ (by omega)
    clear hna hnb h0 e0
    clear Qa La za
    generalize Lib.decDigits nb = Db at *
    go_wp2_with fail
    refine (Qb.out _).mono ?_
    rintro e w3 ⟨rfl, rfl⟩
    go_wp2_with fail
    go_ret
    exact ⟨ret_str (by rw [HQ.out, HAh.out, HB0.out]; apply ByteArray.ext; simp [ByteArray.data_append]), rfl⟩
  ·rcases (by omega : (b = 0) ∨ (0 < nb ∧ b = (nb : Int)) ∨ (0 < nb ∧ b = -(nb : Int))) with hB | hB | hB
   ·subst hA
    subst hB
    have HAh := Lib.hid (ahead_minus)
    have HB0 := Lib.hid (behind_no)
    clear hna hnb h0 e0
    clear Qa La za Qb Lb zb
    go_wp2_with fail
    go_ret
    exact ⟨ret_str (by rw [HQ.out, HAh.out, HB0.out]; apply ByteArray.ext; simp [ByteArray.data_append]), rfl⟩
   ·subst hA
    obtain ⟨hn2, rfl⟩ := hB
    have HAh := Lib.hid (ahead_minus)
    have HB0 := Lib.hid (behind_more hn2)
    have q1 : decide ((0 : Int) < (nb : Int)) = true := decide_eq_true (by omega)
    have q2 : decide ((nb : Int) < 0) = false := decide_eq_false (by omega)
    clear hna hnb h0 e0
    clear Qa La za
    generalize Lib.decDigits nb = Db at *
    go_wp2_with fail
    refine (Qb.out _).mono ?_
    rintro e w3 ⟨rfl, rfl⟩
    go_wp2_with fail
    go_ret
    exact ⟨ret_str (by rw [HQ.out, HAh.out, HB0.out]; apply ByteArray.ext; simp [ByteArray.data_append]), rfl⟩
   ·subst hA
    obtain ⟨hn2, rfl⟩ := hB
    have HAh := Lib.hid (ahead_minus)
    have HB0 := Lib.hid (behind_less hn2)
    have q1 : decide ((0 : Int) < -(nb : Int)) = false := decide_eq_false (by omega)
    have q2 : decide (-(nb : Int) < 0) = true := decide_eq_true (by omega)
    have q3 : IntKind.i64.wrap (- -(nb : Int)) = (nb : Int) := by rw [Int.neg_neg]; exact IntWalk.i64_in _ (by omega)
    clear hna hnb h0 e0
    clear Qa La za
    generalize Lib.decDigits nb = Db at *
    go_wp2_with fail
    refine (Qb.out _).mono ?_
    rintro e w3 ⟨rfl, rfl⟩
    go_wp2_with fail
    go_ret
    exact ⟨ret_str (by rw [HQ.out, HAh.out, HB0.out]; apply ByteArray.ext; simp [ByteArray.data_append]), rfl⟩
  ·rcases (by omega : (b = 0) ∨ (0 < nb ∧ b = (nb : Int)) ∨ (0 < nb ∧ b = -(nb : Int))) with hB | hB | hB
   ·obtain ⟨hn1, rfl⟩ := hA
    subst hB
    have HAh := Lib.hid (ahead_more hn1)
    have HB0 := Lib.hid (behind_no)
    have p1 : decide ((1 : Int) < (na : Int)) = true := decide_eq_true (by omega)
    have p2 : decide ((na : Int) < 0) = false := decide_eq_false (by omega)
    have p3 : IntKind.i64.wrap (-(na : Int)) = -(na : Int) := IntWalk.i64_in _ (by omega)
    have p4 : max (na : Int) (-(na : Int)) = (na : Int) := by omega
    have p5 : (1 : Int) < (na : Int) := by omega
    clear hna hnb h0 e0
    clear Qb Lb zb
    generalize Lib.decDigits na = Da at *
    go_wp2_with fail
    refine (Qa.out _).mono ?_
    rintro e w2 ⟨rfl, rfl⟩
    go_wp2_with fail
    go_ret
    exact ⟨ret_str (by rw [HQ.out, HAh.out, HB0.out]; apply ByteArray.ext; simp [ByteArray.data_append]), rfl⟩
   ·obtain ⟨hn1, rfl⟩ := hA
    obtain ⟨hn2, rfl⟩ := hB
    have HAh := Lib.hid (ahead_more hn1)
    have HB0 := Lib.hid (behind_more hn2)
    have p1 : decide ((1 : Int) < (na : Int)) = true := decide_eq_true (by omega)
    have p2 : decide ((na : Int) < 0) = false := decide_eq_false (by omega)
    have p3 : IntKind.i64.wrap (-(na : Int)) = -(na : Int) := IntWalk.i64_in _ (by omega)
    have p4 : max (na : Int) (-(na : Int)) = (na : Int) := by omega
    have p5 : (1 : Int) < (na : Int) := by omega
    have q1 : decide ((0 : Int) < (nb : Int)) = true := decide_eq_true (by omega)
    have q2 : decide ((nb : Int) < 0) = false := decide_eq_false (by omega)
    clear hna hnb h0 e0
    skip
    generalize Lib.decDigits na = Da at *
    generalize Lib.decDigits nb = Db at *
    go_wp2_with fail
    refine (Qa.out _).mono ?_
    rintro e w2 ⟨rfl, rfl⟩
    go_wp2_with fail
    refine (Qb.out _).mono ?_
    rintro e w3 ⟨rfl, rfl⟩
    go_wp2_with fail
    go_ret
    exact ⟨ret_str (by rw [HQ.out, HAh.out, HB0.out]; apply ByteArray.ext; simp [ByteArray.data_append]), rfl⟩
   ·obtain ⟨hn1, rfl⟩ := hA
    obtain ⟨hn2, rfl⟩ := hB
    have HAh := Lib.hid (ahead_more hn1)
    have HB0 := Lib.hid (behind_less hn2)
    have p1 : decide ((1 : Int) < (na : Int)) = true := decide_eq_true (by omega)
    have p2 : decide ((na : Int) < 0) = false := decide_eq_false (by omega)
    have p3 : IntKind.i64.wrap (-(na : Int)) = -(na : Int) := IntWalk.i64_in _ (by omega)
    have p4 : max (na : Int) (-(na : Int)) = (na : Int) := by omega
    have p5 : (1 : Int) < (na : Int) := by omega
    have q1 : decide ((0 : Int) < -(nb : Int)) = false := decide_eq_false (by omega)
    have q2 : decide (-(nb : Int) < 0) = true := decide_eq_true (by omega)
    have q3 : IntKind.i64.wrap (- -(nb : Int)) = (nb : Int) := by rw [Int.neg_neg]; exact IntWalk.i64_in _ (by omega)
    clear hna hnb h0 e0
    skip
    generalize Lib.decDigits na = Da at *
    generalize Lib.decDigits nb = Db at *
    go_wp2_with fail
    refine (Qa.out _).mono ?_
    rintro e w2 ⟨rfl, rfl⟩
    go_wp2_with fail
    refine (Qb.out _).mono ?_
    rintro e w3 ⟨rfl, rfl⟩
    go_wp2_with fail
    go_ret
    exact ⟨ret_str (by rw [HQ.out, HAh.out, HB0.out]; apply ByteArray.ext; simp [ByteArray.data_append]), rfl⟩
  ·rcases (by omega : (b = 0) ∨ (0 < nb ∧ b = (nb : Int)) ∨ (0 < nb ∧ b = -(nb : Int))) with hB | hB | hB
   ·obtain ⟨hn1, rfl⟩ := hA
    subst hB
    have HAh := Lib.hid (ahead_less hn1)
    have HB0 := Lib.hid (behind_no)
    have p1 : decide ((1 : Int) < -(na : Int)) = false := decide_eq_false (by omega)
    have p2 : decide (-(na : Int) < 0) = true := decide_eq_true (by omega)
    have p3 : IntKind.i64.wrap (- -(na : Int)) = (na : Int) := by rw [Int.neg_neg]; exact IntWalk.i64_in _ (by omega)
    have p4 : max (-(na : Int)) (na : Int) = (na : Int) := by omega
    have p5 : decide (-(na : Int) < -1) = true := decide_eq_true (by omega)
    have p6 : IntKind.i64.wrap ((na : Int)) = (na : Int) := IntWalk.i64_in _ (by omega)
    clear hna hnb h0 e0
    clear Qb Lb zb
    generalize Lib.decDigits na = Da at *
    go_wp2_with fail
    refine (Qa.out _).mono ?_
    rintro e w2 ⟨rfl, rfl⟩
    go_wp2_with fail
    go_ret
    exact ⟨ret_str (by rw [HQ.out, HAh.out, HB0.out]; apply ByteArray.ext; simp [ByteArray.data_append]), rfl⟩
   ·obtain ⟨hn1, rfl⟩ := hA
    obtain ⟨hn2, rfl⟩ := hB
    have HAh := Lib.hid (ahead_less hn1)
    have HB0 := Lib.hid (behind_more hn2)
    have p1 : decide ((1 : Int) < -(na : Int)) = false := decide_eq_false (by omega)
    have p2 : decide (-(na : Int) < 0) = true := decide_eq_true (by omega)
    have p3 : IntKind.i64.wrap (- -(na : Int)) = (na : Int) := by rw [Int.neg_neg]; exact IntWalk.i64_in _ (by omega)
    have p4 : max (-(na : Int)) (na : Int) = (na : Int) := by omega
    have p5 : decide (-(na : Int) < -1) = true := decide_eq_true (by omega)
    have p6 : IntKind.i64.wrap ((na : Int)) = (na : Int) := IntWalk.i64_in _ (by omega)
    have q1 : decide ((0 : Int) < (nb : Int)) = true := decide_eq_true (by omega)
    have q2 : decide ((nb : Int) < 0) = false := decide_eq_false (by omega)
    clear hna hnb h0 e0
    skip
    generalize Lib.decDigits na = Da at *
    generalize Lib.decDigits nb = Db at *
    go_wp2_with fail
    refine (Qa.out _).mono ?_
    rintro e w2 ⟨rfl, rfl⟩
    go_wp2_with fail
    refine (Qb.out _).mono ?_
    rintro e w3 ⟨rfl, rfl⟩
    go_wp2_with fail
    go_ret
    exact ⟨ret_str (by rw [HQ.out, HAh.out, HB0.out]; apply ByteArray.ext; simp [ByteArray.data_append]), rfl⟩
   ·obtain ⟨hn1, rfl⟩ := hA
    obtain ⟨hn2, rfl⟩ := hB
    have HAh := Lib.hid (ahead_less hn1)
    have HB0 := Lib.hid (behind_less hn2)
    have p1 : decide ((1 : Int) < -(na : Int)) = false := decide_eq_false (by omega)
    have p2 : decide (-(na : Int) < 0) = true := decide_eq_true (by omega)
    have p3 : IntKind.i64.wrap (- -(na : Int)) = (na : Int) := by rw [Int.neg_neg]; exact IntWalk.i64_in _ (by omega)
    have p4 : max (-(na : Int)) (na : Int) = (na : Int) := by omega
    have p5 : decide (-(na : Int) < -1) = true := decide_eq_true (by omega)
    have p6 : IntKind.i64.wrap ((na : Int)) = (na : Int) := IntWalk.i64_in _ (by omega)
    have q1 : decide ((0 : Int) < -(nb : Int)) = false := decide_eq_false (by omega)
    have q2 : decide (-(nb : Int) < 0) = true := decide_eq_true (by omega)
    have q3 : IntKind.i64.wrap (- -(nb : Int)) = (nb : Int) := by rw [Int.neg_neg]; exact IntWalk.i64_in _ (by omega)
    clear hna hnb h0 e0
    skip
    generalize Lib.decDigits na = Da at *
    generalize Lib.decDigits nb = Db at *
    go_wp2_with fail
    refine (Qa.out _).mono ?_
    rintro e w2 ⟨rfl, rfl⟩
    go_wp2_with fail
    refine (Qb.out _).mono ?_
    rintro e w3 ⟨rfl, rfl⟩
    go_wp2_with fail
    go_ret
    exact ⟨ret_str (by rw [HQ.out, HAh.out, HB0.out]; apply ByteArray.ext; simp [ByteArray.data_append]), rfl⟩
end F
end Go.Proofs.YtafkeolpadfjfaaGreatDoor
namespace Go.Proofs.YtafkeolpadfjfaaGreatDoor
open Go.RowKit Go.Sort
namespace F
open H K
def KindOk (k : Nat) : Prop := 1 ≤ k ∧ k ≤ 14
set_option maxHeartbeats 4000000 in
set_option maxRecDepth 100000 in
theorem test_of (t : L.Tst) (nv : Value) (nots : List L.Tst) (w : World) (S : Nat → Prop) (hN : NotsAt S w nv nots) (hk : TstOk t) (hkd : KindOk t.kind) (hsz : (L.fTest ⟨t, nots⟩).length ≤ 1000000000)
  (hPF : t.kind = 14 → ∀ W, Below w.heap.size w W → Calls Tryz.prog 58 #[.string ⟨t.name.toArray⟩, nv] W (TextPost (L.fpart t.name (nots.map L.ftst)) W)) :
  Calls Tryz.prog 97 #[tval t nv] w (TextPost (L.fTest ⟨t, nots⟩) w) := by
 obtain ⟨k, name, value, a, b⟩ := t
 have HN := Lib.hid hN
 have HPF := Lib.hid hPF
 have HK := Lib.hid hk
 obtain ⟨an, cn, hnv⟩ := hN.form
 generalize nots.length = ln at hnv
 subst hnv
 have HV : Hid (L.fTest ⟨⟨k, name, value, a, b⟩, nots⟩ = L.ftest ⟨k, name, value, a, b⟩ (nots.map L.ftst)) := Lib.hid rfl
 have HSz := Lib.hid hsz
 generalize L.fTest ⟨⟨k, name, value, a, b⟩, nots⟩ = q at *
 unfold tval tcells
 have zn := bytes_size name
 have zv := bytes_size value
 clear hN hPF hk hsz
 by_cases h1 : k = 1
 ·subst h1
  have HQ : Hid (q = 35 :: name) := Lib.hid HV.out
  have hl : name.length ≤ 1000000000 := by have h := HSz.out; rw [HQ.out] at h; simp at h; omega
  clear HV HPF HN HK
  go_enter Tryz.func97, Tryz.ntmps97
  go_wp2_with fail
  go_ret
  exact ⟨ret_str (by rw [HQ.out]; apply ByteArray.ext; simp [ByteArray.data_append]), (Below.refl _ _).alloc (Nat.le_refl _) _⟩
 by_cases h2 : k = 2
 ·subst h2
  have HQ : Hid (q = 46 :: name) := Lib.hid HV.out
  have hl : name.length ≤ 1000000000 := by have h := HSz.out; rw [HQ.out] at h; simp at h; omega
  clear HV HPF HN HK
  go_enter Tryz.func97, Tryz.ntmps97
  go_wp2_with fail
  go_ret
  exact ⟨ret_str (by rw [HQ.out]; apply ByteArray.ext; simp [ByteArray.data_append]), (Below.refl _ _).alloc (Nat.le_refl _) _⟩
 by_cases h3 : k = 3
 ·subst h3
  have HQ : Hid (q = 91 :: (name ++ [93])) := Lib.hid HV.out
  have hl : name.length ≤ 1000000000 := by have h := HSz.out; rw [HQ.out] at h; simp at h; omega
  clear HV HPF HN HK
  go_enter Tryz.func97, Tryz.ntmps97
  go_wp2_with fail
  go_ret
  exact ⟨ret_str (by rw [HQ.out]; apply ByteArray.ext; simp [ByteArray.data_append]), (Below.refl _ _).alloc (Nat.le_refl _) _⟩
 by_cases h4 : k = 4
 ·subst h4
  have HQ : Hid (q = 91 :: (name ++ (61 :: (L.quoted value ++ [93])))) := Lib.hid HV.out
  have hl : name.length + (L.quoted value).length ≤ 1000000000 := by have h := HSz.out; rw [HQ.out] at h; simp at h; omega
  have hlq := le_quoted value
  have QQ := Lib.hid (fun W => quote value W (by omega))
  have zq := bytes_size (L.quoted value)
  generalize L.quoted value = qv at *
  clear HV HPF HN HK
  go_enter Tryz.func97, Tryz.ntmps97
  go_wp2_with fail
  go_quiet ((go_at_call 136; exact quietAdd (QQ.out _)))
  go_wp2_with fail
  go_ret
  exact ⟨ret_str (by rw [HQ.out]; apply ByteArray.ext; simp [ByteArray.data_append]), belowN ((Below.refl _ _).alloc (Nat.le_refl _) _) _⟩
 by_cases h5 : k = 5
 ·subst h5
  have HQ : Hid (q = 91 :: (name ++ (126 :: 61 :: (L.quoted value ++ [93])))) := Lib.hid HV.out
  have hl : name.length + (L.quoted value).length ≤ 1000000000 := by have h := HSz.out; rw [HQ.out] at h; simp at h; omega
  have hlq := le_quoted value
  have QQ := Lib.hid (fun W => quote value W (by omega))
  have zq := bytes_size (L.quoted value)
  generalize L.quoted value = qv at *
  clear HV HPF HN HK
  go_enter Tryz.func97, Tryz.ntmps97
  go_wp2_with fail
  go_quiet ((go_at_call 136; exact quietAdd (QQ.out _)))
  go_wp2_with fail
  go_ret
  exact ⟨ret_str (by rw [HQ.out]; apply ByteArray.ext; simp [ByteArray.data_append]), belowN ((Below.refl _ _).alloc (Nat.le_refl _) _) _⟩
 by_cases h6 : k = 6
 ·subst h6
  have HQ : Hid (q = 91 :: (name ++ (94 :: 61 :: (L.quoted value ++ [93])))) := Lib.hid HV.out
  have hl : name.length + (L.quoted value).length ≤ 1000000000 := by have h := HSz.out; rw [HQ.out] at h; simp at h; omega
  have hlq := le_quoted value
  have QQ := Lib.hid (fun W => quote value W (by omega))
  have zq := bytes_size (L.quoted value)
  generalize L.quoted value = qv at *
  clear HV HPF HN HK
  go_enter Tryz.func97, Tryz.ntmps97
  go_wp2_with fail
  go_quiet ((go_at_call 136; exact quietAdd (QQ.out _)))
  go_wp2_with fail
  go_ret
  exact ⟨ret_str (by rw [HQ.out]; apply ByteArray.ext; simp [ByteArray.data_append]), belowN ((Below.refl _ _).alloc (Nat.le_refl _) _) _⟩
 by_cases h9 : k = 9
 ·subst h9
  have HQ : Hid (q = L.nthHead ++ (L.stepOf a b ++ [41])) := Lib.hid HV.out
  have hl : (L.stepOf a b).length ≤ 1000000000 := by have h := HSz.out; rw [HQ.out] at h; simp at h; omega
  have QS := Lib.hid (fun W => step a b W (HK.out rfl).1.1 (HK.out rfl).1.2 (HK.out rfl).2.1 (HK.out rfl).2.2)
  have zq := bytes_size (L.stepOf a b)
  generalize L.stepOf a b = qv at *
  clear HV HPF HN HK
  go_enter Tryz.func97, Tryz.ntmps97
  go_wp2_with fail
  refine (QS.out _).mono ?_
  rintro e w2 ⟨rfl, hw2⟩
  have HB2 : Hid (Below (w.heap.size + 1) (w.alloc (.cells #[.int .i64 9, .string ⟨name.toArray⟩, .string ⟨value.toArray⟩, .int .i64 a, .int .i64 b, .slice an ln cn] 150)) w2) := Lib.hid (by rw [hw2]; exact Below.refl _ _)
  clear hw2
  go_wp2_with fail
  go_ret
  refine ⟨ret_str (by rw [HQ.out]; apply ByteArray.ext; simp [ByteArray.data_append, L.nthHead]), ?_⟩
  exact ((Below.refl _ w).alloc (Nat.le_refl _) _).trans (HB2.out.mono (by simp))
 by_cases h14 : k = 14
 ·subst h14
  have HQ : Hid (q = L.notHead ++ (L.fpart name (nots.map L.ftst) ++ [41])) := Lib.hid HV.out
  have hl : (L.fpart name (nots.map L.ftst)).length ≤ 1000000000 := by have h := HSz.out; rw [HQ.out] at h; simp at h; omega
  have QS := Lib.hid (HPF.out rfl _ ((Below.refl _ w).alloc (Nat.le_refl _) (.cells #[.int .i64 14, .string ⟨name.toArray⟩, .string ⟨value.toArray⟩, .int .i64 a, .int .i64 b, .slice an ln cn] 150)))
  have zq := bytes_size (L.fpart name (nots.map L.ftst))
  generalize L.fpart name (nots.map L.ftst) = qv at *
  clear HV HPF HN HK
  go_enter Tryz.func97, Tryz.ntmps97
  go_wp2_with fail
  refine (QS.out).mono ?_
  rintro e w2 ⟨rfl, hb2⟩
  have HB2 := Lib.hid hb2
  clear hb2
  go_wp2_with fail
  go_ret
  refine ⟨ret_str (by rw [HQ.out]; apply ByteArray.ext; simp [ByteArray.data_append, L.notHead]), ?_⟩
  exact ((Below.refl _ w).alloc (Nat.le_refl _) _).trans (HB2.out.mono (by simp))
 have HKd : k = 7 ∨ k = 8 ∨ k = 10 ∨ k = 11 ∨ k = 12 ∨ k = 13 := by
  have : 1 ≤ k ∧ k ≤ 14 := hkd
  omega
 have HB0 : Hid (Below w.heap.size w ((w.alloc (.cells #[.int .i64 k, .string ⟨name.toArray⟩, .string ⟨value.toArray⟩, .int .i64 a, .int .i64 b, .slice an ln cn] 150)))) := Lib.hid ((Below.refl _ w).alloc (Nat.le_refl _) _)
 have HQ : Hid (q = L.ofKind k) := Lib.hid (by
  rw [HV.out]; unfold L.ftest; dsimp only
  rw [if_neg h1, if_neg h2, if_neg h3, if_neg h4, if_neg h5, if_neg h6, if_neg h9, if_neg h14])
 clear HV HPF HN HK h1 h2 h3 h4 h5 h6 h9 h14 hkd
 rcases HKd with rfl | rfl | rfl | rfl | rfl | rfl
 ·have HQ2 : Hid (q = [58, 102, 105, 114, 115, 116, 45, 99, 104, 105, 108, 100]) := Lib.hid HQ.out
  clear HQ
  go_enter Tryz.func97, Tryz.ntmps97
  go_wp2_with fail
  go_ret
  exact ⟨ret_str (by rw [HQ2.out]), HB0.out.alloc (by simp) _⟩
 ·have HQ2 : Hid (q = [58, 108, 97, 115, 116, 45, 99, 104, 105, 108, 100]) := Lib.hid HQ.out
  clear HQ
  go_enter Tryz.func97, Tryz.ntmps97
  go_wp2_with fail
  go_ret
  exact ⟨ret_str (by rw [HQ2.out]), HB0.out.alloc (by simp) _⟩
 ·have HQ2 : Hid (q = [58, 101, 109, 112, 116, 121]) := Lib.hid HQ.out
  clear HQ
  go_enter Tryz.func97, Tryz.ntmps97
  go_wp2_with fail
  go_ret
  exact ⟨ret_str (by rw [HQ2.out]), HB0.out.alloc (by simp) _⟩
 ·have HQ2 : Hid (q = [58, 102, 111, 99, 117, 115]) := Lib.hid HQ.out
  clear HQ
  go_enter Tryz.func97, Tryz.ntmps97
  go_wp2_with fail
  go_ret
  exact ⟨ret_str (by rw [HQ2.out]), HB0.out.alloc (by simp) _⟩
 ·have HQ2 : Hid (q = [58, 104, 111, 118, 101, 114]) := Lib.hid HQ.out
  clear HQ
  go_enter Tryz.func97, Tryz.ntmps97
  go_wp2_with fail
  go_ret
  exact ⟨ret_str (by rw [HQ2.out]), HB0.out.alloc (by simp) _⟩
 ·have HQ2 : Hid (q = [58, 99, 104, 101, 99, 107, 101, 100]) := Lib.hid HQ.out
  clear HQ
  go_enter Tryz.func97, Tryz.ntmps97
  go_wp2_with fail
  go_ret
  exact ⟨ret_str (by rw [HQ2.out]), HB0.out.alloc (by simp) _⟩
end F
end Go.Proofs.YtafkeolpadfjfaaGreatDoor
