/- What decimal comes to. What hex and among come to. Blocks whose cells are known, and what keeps them. Rows in memory: slices whose cells are known, what lies behind them, and what keeps them. A list that the call owns beside blocks of its own: its blocks are those of S. -/
import Derived.Test.YtafkeolpadfjfaaGreatDoorSty1
import Derived.OwnWalk
import Derived.Test.YtafkeolpadfjfaaGreatDoorTrim
import Derived.Lib.LaidTab
import Derived.Deep.AppendLies
set_option linter.unusedVariables false
set_option linter.unusedSimpArgs false
namespace Go.Proofs.YtafkeolpadfjfaaGreatDoor
open Go.RowKit
namespace Y
open H
theorem cut_front (l : List UInt8) (k : Nat) (h : k ≤ l.length) : (⟨l.toArray⟩ : ByteArray).extract 0 k = ⟨(l.take k).toArray⟩ := by
 have := slice_str l 0 k (Nat.zero_le _) h; simpa using this
theorem cut_back (l : List UInt8) (k : Nat) (h : k ≤ l.length) : (⟨l.toArray⟩ : ByteArray).extract k l.length = ⟨(l.drop k).toArray⟩ := by
 have := slice_str l k l.length h (Nat.le_refl _)
 rw [this, List.take_of_length_le (by rw [List.length_drop]; omega)]
/-- What stands behind the sign: what the rest of decimal makes of it. -/
def decTail (sg : Int) (u : List UInt8) : Option (Int × List UInt8) :=
 if (u.takeWhile S.isDig).length < 1 ∨ 7 < (u.takeWhile S.isDig).length then none
 else match S.frac (S.natOf (u.takeWhile S.isDig) * 1000) (u.dropWhile S.isDig) with
  | none => none
  | some (n, r) => if n ≤ 1048576000 then some (sg * n, r) else none
theorem dec_tail {s u : List UInt8} {sg : Int} (h : S.signOf s = (sg, u)) : S.decimal s = decTail sg u := by
 unfold S.decimal decTail
 rw [h]
 rfl
theorem frac_plain (n : Nat) {r : List UInt8} (h : r = [] ∨ ∃ c t, r = c :: t ∧ c ≠ 46) : S.frac n r = some (n, r) := by
 rcases h with rfl | ⟨c, t, rfl, hc⟩
 ·rfl
 ·unfold S.frac
  split
  ·rename_i h; exact absurd (List.cons.inj h).1 hc
  ·rfl
theorem index0 {c : UInt8} {t : List UInt8} (h : 0 < (⟨(c :: t).toArray⟩ : ByteArray).size) : (⟨(c :: t).toArray⟩ : ByteArray)[0] = c := at_drop (s := c :: t) (i := 0) (r := t) rfl h
set_option maxHeartbeats 8000000 in
set_option maxRecDepth 100000 in
theorem decimal (s : List UInt8) (w : World) (hs : s.length ≤ 100000) : Calls Tryz.prog 78 #[.string ⟨s.toArray⟩] w (DecPost s w) := by
 have hcs := sign_cases s
 obtain ⟨sg, u, hsg⟩ : ∃ sg u, S.signOf s = (sg, u) := ⟨_, _, rfl⟩
 have hlu : u.length ≤ s.length ∧ (sg = 1 ∨ sg = -1) := by
  rcases hcs with ⟨h, h2⟩ | ⟨t, h, h2⟩ | ⟨t, h, h2⟩ | ⟨c, t, h, _, _, h2⟩ <;> (rw [hsg] at h2; simp only [Prod.mk.injEq] at h2; obtain ⟨rfl, rfl⟩ := h2; rw [h]; simp)
 have HD := Lib.hid (dec_tail hsg)
 generalize hdS : S.decimal s = dS at HD
 have HDS := Lib.hid hdS
 -- the rest, behind the sign
 have QR := fun W => run u W (by omega)
 have hD := S.tw_dig u
 have hk := S.take_tw S.isDig u
 have hr := S.drop_tw S.isDig u
 have hkl := S.tw_le S.isDig u
 have zu := bytes_size u
 have zs := bytes_size s
 have zR := bytes_size (u.dropWhile S.isDig)
 have hRl : (u.dropWhile S.isDig).length ≤ u.length := by rw [← hr, List.length_drop]; omega
 have HT : Hid (decTail sg u = if (u.takeWhile S.isDig).length < 1 ∨ 7 < (u.takeWhile S.isDig).length then none
  else match S.frac (S.natOf (u.takeWhile S.isDig) * 1000) (u.dropWhile S.isDig) with
   | none => none
   | some (n, r) => if n ≤ 1048576000 then some (sg * n, r) else none) := Lib.hid rfl
 have hx1 := cut_front u (u.takeWhile S.isDig).length hkl
 have hx2 := cut_back u (u.takeWhile S.isDig).length hkl
 rw [hk] at hx1
 rw [hr] at hx2
 clear hk hr hdS
 generalize u.takeWhile S.isDig = D at *
 generalize u.dropWhile S.isDig = R at *
 have QA := fun (h1 : 1 ≤ D.length) (h7 : D.length ≤ 7) W => Tryz.strconv_Atoi_ok ⟨D.toArray⟩ (by rw [bytes_size]; omega) (S.natOf D : Int) (by rw [bytes_toList]; exact (atoi7 hD h1 h7).1) W
 have hDn := fun (h1 : 1 ≤ D.length) (h7 : D.length ≤ 7) => (atoi7 hD h1 h7).2
 have HQR := Lib.hid QR
 have HQA := Lib.hid QA
 have HDn := Lib.hid hDn
 have HCs := Lib.hid hcs
 clear QR QA hD hDn hcs
 obtain ⟨hlu1, hlu2⟩ := hlu
 have HLu := Lib.hid hlu1
 have HSg := Lib.hid hlu2
 clear hlu1 hlu2
 have HB : ∃ B : Bool, Hid ((B = true ∧ ∃ c t, s = c :: t ∧ ((c = 45 ∧ sg = -1) ∨ (c = 43 ∧ sg = 1)) ∧ u = t) ∨ (B = false ∧ u = s ∧ sg = 1 ∧ (s = [] ∨ ∃ c t, s = c :: t ∧ c ≠ 45 ∧ c ≠ 43))) := by
  rcases HCs.out with ⟨h, h2⟩ | ⟨t, h, h2⟩ | ⟨t, h, h2⟩ | ⟨c, t, h, h3, h4, h2⟩ <;> (rw [hsg] at h2; simp only [Prod.mk.injEq] at h2; obtain ⟨h5, h6⟩ := h2)
  ·exact ⟨false, Lib.hid (Or.inr ⟨rfl, by rw [h6, h], h5, Or.inl h⟩)⟩
  ·exact ⟨true, Lib.hid (Or.inl ⟨rfl, 45, t, h, Or.inl ⟨rfl, h5⟩, h6⟩)⟩
  ·exact ⟨true, Lib.hid (Or.inl ⟨rfl, 43, t, h, Or.inr ⟨rfl, h5⟩, h6⟩)⟩
  ·exact ⟨false, Lib.hid (Or.inr ⟨rfl, by rw [h6, h], h5, Or.inr ⟨c, t, h, h3, h4⟩⟩)⟩
 obtain ⟨B, HB⟩ := HB
 clear HCs hsg
 go_enter Tryz.func78, Tryz.ntmps78
 go_upto_region 2 with fail
 go_cut [22] (fun v22 wx => v22 = .bool B ∧ Hid (w = wx))
 case first =>
  rcases HB.out with ⟨rfl, c, t, rfl, hc, rfl⟩ | ⟨rfl, rfl, rfl, rfl | ⟨c, t, rfl, hc1, hc2⟩⟩
  ·have hix := fun h => index0 (c := c) (t := u) h
   rcases hc with ⟨hc, _⟩ | ⟨hc, _⟩
   ·have e1 := byte_ne (c := c) (n := 43) (by rw [hc]; decide) (by decide)
    have e2 := byte_is (c := c) (n := 45) (by rw [hc]; rfl) (by decide)
    have n1 : ¬ (c.toNat : Int) = 43 := by simpa using e1
    have n2 : (c.toNat : Int) = 45 := by simpa using e2
    clear hc
    go_wp2_with fail
    go_meet
    exact ⟨rfl, Lib.hid (by first | rfl | trivial)⟩
   ·have e1 := byte_is (c := c) (n := 43) (by rw [hc]; rfl) (by decide)
    have n1 : (c.toNat : Int) = 43 := by simpa using e1
    clear hc
    go_wp2_with fail
    go_meet
    exact ⟨rfl, Lib.hid (by first | rfl | trivial)⟩
  ·go_wp2_with fail
   go_meet
   exact ⟨rfl, Lib.hid (by first | rfl | trivial)⟩
  ·have hix := fun h => index0 (c := c) (t := t) h
   have e1 := byte_ne (c := c) (n := 43) hc2 (by decide)
   have e2 := byte_ne (c := c) (n := 45) hc1 (by decide)
   have n1 : ¬ (c.toNat : Int) = 43 := by simpa using e1
   have n2 : ¬ (c.toNat : Int) = 45 := by simpa using e2
   clear hc1 hc2
   go_wp2_with fail
   go_meet
   exact ⟨by simp [n1, n2], Lib.hid (by first | rfl | trivial)⟩
 case rest =>
  obtain ⟨rfl, HW⟩ := hcut
  obtain rfl := HW.out
  clear HW
  go_upto_if 22 with fail
  go_cut [0, 5] (fun v0 v5 wx => v0 = .string ⟨u.toArray⟩ ∧ v5 = .int .i64 sg ∧ Hid (w = wx))
  case first =>
   rcases HB.out with ⟨rfl, c, t, rfl, hc, rfl⟩ | ⟨rfl, rfl, rfl, _⟩
   ·have hix := fun h => index0 (c := c) (t := u) h
    have hx := cut_back (c :: u) 1 (by simp)
    simp only [List.length_cons, List.drop_succ_cons, List.drop_zero] at hx
    rcases hc with ⟨hc, rfl⟩ | ⟨hc, rfl⟩
    ·have e2 := byte_is (c := c) (n := 45) (by rw [hc]; rfl) (by decide)
     have n2 : (c.toNat : Int) = 45 := by simpa using e2
     clear hc
     go_wp2_with fail
     go_meet
     exact ⟨by first | rfl | (rw [hx]), rfl, Lib.hid (by first | rfl | trivial)⟩
    ·have e2 := byte_ne (c := c) (n := 45) (by rw [hc]; decide) (by decide)
     have n2 : ¬ (c.toNat : Int) = 45 := by simpa using e2
     clear hc
     go_wp2_with fail
     go_meet
     exact ⟨by first | rfl | (rw [hx]), rfl, Lib.hid (by first | rfl | trivial)⟩
   ·go_wp2_with fail
    go_meet
    exact ⟨rfl, rfl, Lib.hid (by first | rfl | trivial)⟩
  case rest =>
   obtain ⟨rfl, rfl, HW⟩ := hcut
   obtain rfl := HW.out
   clear HW HB
   go_wp2_with fail
   refine (HQR.out _).mono ?_
   rintro e w' ⟨rfl, rfl⟩
   rcases (by omega : D.length < 1 ∨ 7 < D.length ∨ (1 ≤ D.length ∧ D.length ≤ 7)) with h1 | h7 | ⟨h1, h7⟩
   ·have e1 : (D.length : Int) < 1 := by omega
    have f1 : decide ((D.length : Int) < 1) = true := decide_eq_true e1
    have HN : Hid (dS = none) := Lib.hid (by rw [HD.out, HT.out, if_pos (Or.inl h1)])
    clear h1
    go_wp2_with fail
    go_ret3
    exact ⟨0, [], false, rfl, Below.refl _ _, Lib.hid (fun h => by cases h), Lib.hid (fun _ => HDS.out.trans HN.out), by simp⟩
   ·have e1 : ¬ (D.length : Int) < 1 := by omega
    have f1 : decide ((D.length : Int) < 1) = false := decide_eq_false e1
    have e2 : (7 : Int) < (D.length : Int) := by omega
    have f2 : decide ((7 : Int) < (D.length : Int)) = true := decide_eq_true e2
    have HN : Hid (dS = none) := Lib.hid (by rw [HD.out, HT.out, if_pos (Or.inr h7)])
    clear h7
    go_wp2_with fail
    go_ret3
    exact ⟨0, [], false, rfl, Below.refl _ _, Lib.hid (fun h => by cases h), Lib.hid (fun _ => HDS.out.trans HN.out), by simp⟩
   ·have e1 : ¬ (D.length : Int) < 1 := by omega
    have f1 : decide ((D.length : Int) < 1) = false := decide_eq_false e1
    have e2 : ¬ (7 : Int) < (D.length : Int) := by omega
    have f2 : decide ((7 : Int) < (D.length : Int)) = false := decide_eq_false e2
    have HN : Hid (dS = match S.frac (S.natOf D * 1000) R with
     | none => none
     | some (n, r) => if n ≤ 1048576000 then some (sg * n, r) else none) := Lib.hid (by rw [HD.out, HT.out, if_neg (by omega)])
    have QAt := Lib.hid (HQA.out h1 h7)
    have hm := HDn.out h1 h7
    generalize S.natOf D = m at *
    have hDu : (D.length : Int) ≤ (u.length : Int) := by omega
    have hD0 : (0 : Int) ≤ (D.length : Int) := by omega
    clear HD HT HQA HDn h1 h7
    go_wp2_with fail
    refine (QAt.out _).mono ?_
    rintro e w2 ⟨rfl, hw2⟩
    have hB2 : Below w.heap.size w w2 := by
     rcases hw2 with rfl | ⟨t, rfl⟩
     ·exact Below.refl _ _
     ·exact Lib.bytesWorld_below _ _ _
    have HB2 := Lib.hid hB2
    clear hw2 hB2 QAt
    have hm1 : (m : Int) * 1000 ≤ 9999999000 := by omega
    have hm0 : (0 : Int) ≤ (m : Int) * 1000 := by omega
    have hRc : (R = [] ∨ ∃ c t, R = c :: t ∧ c ≠ 46) ∨ ∃ c t, R = c :: t ∧ c = 46 := by
     cases R with
     | nil => exact Or.inl (Or.inl rfl)
     | cons c t =>
      by_cases h : c = 46
      ·exact Or.inr ⟨c, t, rfl, h⟩
      ·exact Or.inl (Or.inr ⟨c, t, rfl, h⟩)
    obtain ⟨B2, HB2c⟩ : ∃ B2 : Bool, Hid ((B2 = false ∧ (R = [] ∨ ∃ c t, R = c :: t ∧ c ≠ 46)) ∨ (B2 = true ∧ ∃ c t, R = c :: t ∧ c = 46)) := by
     rcases hRc with h | h
     ·exact ⟨false, Lib.hid (Or.inl ⟨rfl, h⟩)⟩
     ·exact ⟨true, Lib.hid (Or.inr ⟨rfl, h⟩)⟩
    clear hRc
    go_upto_region 12 with fail
    go_cut [54] (fun v54 wx => v54 = .bool B2 ∧ Hid (w2 = wx))
    case first =>
     rcases HB2c.out with ⟨rfl, rfl | ⟨c, t, rfl, hc⟩⟩ | ⟨rfl, c, t, rfl, hc⟩
     ·go_wp2_with fail
      go_meet
      exact ⟨rfl, Lib.hid (by first | rfl | trivial)⟩
     ·have hix := fun h => index0 (c := c) (t := t) h
      have e3 : ((c.toNat : Int) == 46) = false := byte_ne (c := c) (n := 46) hc (by decide)
      have n3 : ¬ (c.toNat : Int) = 46 := by simpa using e3
      clear hc
      go_wp2_with fail
      go_meet
      exact ⟨by first | rfl | simp [n3], Lib.hid (by first | rfl | trivial)⟩
     ·have hix := fun h => index0 (c := c) (t := t) h
      have e3 : ((c.toNat : Int) == 46) = true := byte_is (c := c) (n := 46) (by rw [hc]; rfl) (by decide)
      have n3 : (c.toNat : Int) = 46 := by simpa using e3
      clear hc
      go_wp2_with fail
      go_meet
      exact ⟨by first | rfl | simp [n3], Lib.hid (by first | rfl | trivial)⟩
    case rest =>
     obtain ⟨rfl, HW⟩ := hcut
     obtain rfl := HW.out
     clear HW
     go_upto_if 54 with fail
     go_cut [0, 7] (fun v0 v7 wx => ∃ (n1 : Nat) (R1 : List UInt8), v0 = .string ⟨R1.toArray⟩ ∧ v7 = .int .i64 n1 ∧ Hid (S.frac (m * 1000) R = some (n1, R1)) ∧ n1 ≤ 10000000000 ∧ R1.length ≤ s.length ∧ Hid (Below w.heap.size w wx))
     case first =>
      rcases HB2c.out with ⟨rfl, hR⟩ | ⟨rfl, c, t, rfl, hc⟩
      ·have hRl2 : R.length ≤ s.length := by have := HLu.out; omega
       have HFr := Lib.hid (frac_plain (m * 1000) hR)
       clear hR
       go_wp2_with fail
       go_meet
       exact ⟨m * 1000, R, rfl, congrArg (Value.int IntKind.i64) (by omega), HFr, by omega, hRl2, HB2⟩
      ·have htl : t.length + 1 ≤ s.length := by have := HLu.out; simp only [List.length_cons] at hRl; omega
       have QR2 := Lib.hid (fun W => run t W (by omega))
       have hD2 := S.tw_dig t
       have hkl2 := S.tw_le S.isDig t
       have hxa := cut_back (c :: t) 1 (by simp)
       have hxd := cut_back (c :: t) (1 + (t.takeWhile S.isDig).length) (by simp; omega)
       have hdr : (c :: t).drop (1 + (t.takeWhile S.isDig).length) = t.dropWhile S.isDig := by rw [Nat.add_comm, List.drop_succ_cons, S.drop_tw]
       have hxb := slice_str (c :: t) 1 (1 + (t.takeWhile S.isDig).length) (by omega) (by simp; omega)
       have htk : ((c :: t).drop 1).take (1 + (t.takeWhile S.isDig).length - 1) = t.takeWhile S.isDig := by rw [Nat.add_sub_cancel_left]; exact S.take_tw S.isDig t
       have HFr : Hid (S.frac (m * 1000) (c :: t) = if t.takeWhile S.isDig = [] then none else some (m * 1000 + S.natOf ((t.takeWhile S.isDig ++ [48, 48]).take 3), t.dropWhile S.isDig)) := Lib.hid (by rw [hc]; rfl)
       have ht2 : (t.dropWhile S.isDig).length ≤ s.length := by rw [← S.drop_tw, List.length_drop]; omega
       rw [hdr] at hxd
       rw [htk] at hxb
       simp only [List.length_cons, List.drop_succ_cons, List.drop_zero] at hxa hxd
       clear hdr htk hc
       generalize t.takeWhile S.isDig = F at *
       generalize t.dropWhile S.isDig = t2 at *
       have zF := bytes_size F
       by_cases hF : F = []
       ·have HN3 : Hid (dS = none) := Lib.hid (by rw [HN.out, HFr.out, if_pos hF])
        subst hF
        clear HFr hxb hxd
        go_wp2_with fail
        refine (QR2.out _).mono ?_
        rintro e w' ⟨rfl, rfl⟩
        go_wp2_with fail
        go_ret3
        exact ⟨0, [], false, rfl, HB2.out, Lib.hid (fun h => by cases h), Lib.hid (fun _ => HDS.out.trans HN3.out), by simp⟩
       ·have hF1 : 1 ≤ F.length := List.length_pos_iff.2 hF
        have HFr2 := Lib.hid (HFr.out.trans (if_neg hF))
        have hP := S.bounds_pad F hD2
        have hPl := S.pad_len hF
        have hxc : ((⟨F.toArray⟩ : ByteArray) ++ ⟨#[48, 48]⟩).extract 0 3 = ⟨((F ++ [48, 48]).take 3).toArray⟩ := by
         have e := append_bytes F [48, 48]
         rw [show (⟨#[48, 48]⟩ : ByteArray) = ⟨[48, 48].toArray⟩ from rfl, e]
         exact cut_front _ 3 (by rw [List.length_append]; simp; omega)
        generalize (F ++ [48, 48]).take 3 = P at *
        have hPn : S.natOf P ≤ 999 := by
         have := S.natOf_lt hP
         rw [hPl] at this
         omega
        have QA2 := Lib.hid (fun W => Tryz.strconv_Atoi_ok ⟨P.toArray⟩ (by rw [bytes_size, hPl]; omega) (S.natOf P : Int) (by rw [bytes_toList]; exact (atoi7 hP (by omega) (by omega)).1) W)
        generalize S.natOf P = pn at *
        have hkI : (1 : Int) ≤ (F.length : Int) := by omega
        have hkT : (F.length : Int) ≤ (t.length : Int) := by omega
        have hk0 : ((F.length : Int) == 0) = false := by rw [beq_eq_false_iff_ne]; omega
        have nk0 : ¬ (F.length : Int) = 0 := by omega
        have nk1 : ¬ F.length = 0 := by omega
        have htb : (t.length : Int) ≤ 100000 := by omega
        clear HFr hP hPl hF hF1
        go_wp2_with fail
        refine (QR2.out _).mono ?_
        rintro e w' ⟨rfl, rfl⟩
        go_wp2_with fail
        refine (QA2.out _).mono ?_
        rintro e w3 ⟨rfl, hw3⟩
        have hB3 : Below w2.heap.size w2 w3 := by
         rcases hw3 with rfl | ⟨t, rfl⟩
         ·exact Below.refl _ _
         ·exact Lib.bytesWorld_below _ _ _
        have HB3 := Lib.hid (HB2.out.trans (hB3.mono HB2.out.size))
        clear hw3 hB3 QA2 QR2
        go_wp2_with fail
        go_meet
        exact ⟨m * 1000 + pn, t2, congrArg Value.string hxd, congrArg (Value.int IntKind.i64) (by omega), HFr2, by omega, ht2, HB3⟩
     case rest =>
      obtain ⟨n1, R1, rfl, rfl, HFr, hn1, hR1, HB⟩ := hcut
      have HN2 : Hid (dS = if n1 ≤ 1048576000 then some (sg * n1, R1) else none) := Lib.hid (by rw [HN.out, HFr.out])
      clear HN HFr HB2c HB2
      rcases HSg.out with rfl | rfl
      all_goals
       by_cases hle : n1 ≤ 1048576000
       ·have e5 : (n1 : Int) ≤ 1048576000 := by omega
        have f5 : decide ((n1 : Int) ≤ 1048576000) = true := decide_eq_true e5
        have HN3 := Lib.hid (HDS.out.trans (HN2.out.trans (if_pos hle)))
        clear HN2 HDS
        go_wp2_with fail
        go_ret3
        exact ⟨_, R1, true, rfl, HB.out, Lib.hid (fun _ => ⟨HN3.out.trans (by simp), by omega, by omega⟩), Lib.hid (fun h => by cases h), hR1⟩
       ·have e5 : ¬ (n1 : Int) ≤ 1048576000 := by omega
        have f5 : decide ((n1 : Int) ≤ 1048576000) = false := decide_eq_false e5
        have HN3 := Lib.hid (HDS.out.trans (HN2.out.trans (if_neg hle)))
        clear HN2 HDS
        go_wp2_with fail
        go_ret3
        exact ⟨_, R1, false, rfl, HB.out, Lib.hid (fun h => by cases h), Lib.hid (fun _ => HN3.out), hR1⟩
end Y
end Go.Proofs.YtafkeolpadfjfaaGreatDoor
namespace Go.Proofs.YtafkeolpadfjfaaGreatDoor
open Go.RowKit
namespace Y
open H
theorem dw_nil {p : UInt8 → Bool} : ∀ {l : List UInt8}, l.dropWhile p = [] ↔ l.all p = true
 | [] => by simp
 | c :: r => by
  by_cases h : p c = true
  ·rw [List.dropWhile_cons_of_pos h, dw_nil (l := r), List.all_cons, h]; simp
  ·rw [List.dropWhile_cons_of_neg h, List.all_cons]; simp [h]
theorem contains_hex (b : UInt8) : S.hexset.contains b = S.isHex b := by
 have h : ∀ n : Fin 256, S.hexset.contains (UInt8.ofNat n.val) = S.isHex (UInt8.ofNat n.val) := by decide +kernel
 have := h ⟨b.toNat, b.toNat_lt⟩
 simpa using this
theorem trim_hex (l : List UInt8) : decide (Lib.trimS l S.hexset = []) = l.all S.isHex := by
 have e : (fun x => S.hexset.contains x) = S.isHex := by funext b; exact contains_hex b
 unfold Lib.trimS Lib.trimLeftS Lib.trimRightS
 rw [e]
 rw [Bool.eq_iff_iff, decide_eq_true_iff, dw_nil]
 constructor
 ·intro h
  have h2 : (l.reverse.dropWhile S.isHex) = [] := by
   have h3 : ∀ c ∈ l.reverse.dropWhile S.isHex, S.isHex c = true := by
    intro c hc
    exact List.all_eq_true.1 h c (by simpa using hc)
   cases hq : l.reverse.dropWhile S.isHex with
   | nil => rfl
   | cons c r =>
    have h4 := h3 c (by rw [hq]; simp)
    have h5 := List.head?_dropWhile_not (p := S.isHex) l.reverse
    rw [hq] at h5
    simp at h5
    rw [h5] at h4; cases h4
  have h6 := dw_nil.1 h2
  simpa using h6
 ·intro h
  have h2 : l.reverse.all S.isHex = true := by simpa using h
  rw [dw_nil.2 h2]; rfl
set_option maxHeartbeats 1000000 in
theorem hex (s : List UInt8) (w : World) (hs : s.length ≤ 100000) :
  Calls Tryz.prog 76 #[.string ⟨s.toArray⟩] w fun e w' => e = .returned (.bool (s.all S.isHex)) ∧ Below w.heap.size w w' := by
 have hc : Calls Tryz.prog 71 #[.string ⟨s.toArray⟩, .string ⟨#[48, 49, 50, 51, 52, 53, 54, 55, 56, 57, 97, 98, 99, 100, 101, 102]⟩] w fun e w' => e = .returned (.string ⟨(Lib.trimS s S.hexset).toArray⟩) ∧ Below w.heap.size w w' := by
  have := Any.strings_Trim_laid Tryz.hand160 (by kernel_rfl) ⟨s.toArray⟩ ⟨#[48, 49, 50, 51, 52, 53, 54, 55, 56, 57, 97, 98, 99, 100, 101, 102]⟩ w (by rw [bytes_size]; omega) (by decide) (ascii_of_all (by decide))
  rw [bytes_toList] at this
  exact this
 have HC := Lib.hid hc
 have hT := trim_hex s
 generalize s.all S.isHex = B at *
 generalize Lib.trimS s S.hexset = t at *
 have HT := Lib.hid hT
 clear hc hT
 go_enter Tryz.func76, Tryz.ntmps76
 go_wp2_with fail
 refine HC.out.mono ?_
 rintro e w1 ⟨rfl, hb⟩
 have HB := Lib.hid hb
 clear hb HC
 cases t with
 | nil =>
  go_wp2_with fail
  go_ret
  exact ⟨ret_bool (by rw [← HT.out]; rfl), HB.out⟩
 | cons c r =>
  go_wp2_with fail
  go_ret
  exact ⟨ret_bool (by rw [← HT.out]; rfl), HB.out⟩
/-- What the readers of values ask of the world: the table of white space, and the table of longhands. -/
def Asc (w : World) : Prop := Lib.TabIs Tryz.prog w "strings.asciiSpace" .u8 Lib.asciiSpaceTab
set_option maxHeartbeats 1000000 in
theorem among (name ws : List UInt8) (L : List (List UInt8)) (w : World) (hL : Lib.fields ws = L) (hl : L.length ≤ 1000) (hw : ws.length ≤ 1000) (ha : ∀ b ∈ ws, b.toNat < 128) (hE : Asc w) :
  Calls Tryz.prog 39 #[.string ⟨name.toArray⟩, .string ⟨ws.toArray⟩] w fun e w' => e = .returned (.bool (L.contains name)) ∧ Below w.heap.size w w' := by
 have q := Tryz.strings_Fields_laid ⟨ws.toArray⟩ w (by rw [bytes_size]; omega) (fun j b h => by rw [bytes_toList] at h; exact ha b (List.mem_of_getElem? h)) hE
 rw [bytes_toList, hL] at q
 have Q := Lib.hid q
 have hB : Below w.heap.size w (w.alloc (.cells (L.map fun l => Value.string ⟨l.toArray⟩).toArray 9)) := (Below.refl _ _).alloc (Nat.le_refl _) _
 have hC : Calls Tryz.prog 73 #[.slice (some ⟨w.heap.size, 0, none⟩) L.length L.length, .string ⟨name.toArray⟩] (w.alloc (.cells (L.map fun l => Value.string ⟨l.toArray⟩).toArray 9)) fun e w' => e = .returned (.bool (L.contains name)) ∧ w' = (w.alloc (.cells (L.map fun l => Value.string ⟨l.toArray⟩).toArray 9)) := by
  have := Tryz.slices_Contains_string w.heap.size 0 L.length L.length (L.map fun l => (⟨l.toArray⟩ : ByteArray)) ⟨name.toArray⟩ (w.alloc (.cells (L.map fun l => Value.string ⟨l.toArray⟩).toArray 9)) (by simp) (by omega) (fun j hj => by
   have hj' : j < L.length := by simpa using hj
   rw [Nat.zero_add, World.cell?_alloc_at _ _ _ _ rfl]
   simp [hj'])
  refine this.mono ?_
  rintro e w' ⟨rfl, rfl⟩
  refine ⟨ret_bool ?_, rfl⟩
  have htk : (L.map fun l => (⟨l.toArray⟩ : ByteArray)).take L.length = L.map fun l => (⟨l.toArray⟩ : ByteArray) := List.take_of_length_le (by simp)
  rw [htk, Bool.eq_iff_iff, Lib.containsS_iff, List.mem_map, List.contains_iff_mem]
  constructor
  ·rintro ⟨x, hx, he⟩
   have : x = name := by
    have h2 := congrArg (fun b : ByteArray => b.data.toList) he
    simpa using h2
   rw [← this]; exact hx
  ·intro h; exact ⟨name, h, rfl⟩
 have HC := Lib.hid hC
 have HB := Lib.hid hB
 generalize L.contains name = B at *
 generalize (w.alloc (.cells (L.map fun l => Value.string ⟨l.toArray⟩).toArray 9)) = W at *
 clear q hL ha hE hC hB
 go_enter Tryz.func39, Tryz.ntmps39
 go_wp2_with fail
 refine Q.out.mono ?_
 rintro e w1 ⟨rfl, rfl⟩
 go_wp2_with fail
 refine HC.out.mono ?_
 rintro e w2 ⟨rfl, rfl⟩
 go_wp2_with fail
 go_ret
 exact ⟨rfl, HB.out⟩
end Y
end Go.Proofs.YtafkeolpadfjfaaGreatDoor
namespace Go.Proofs.YtafkeolpadfjfaaGreatDoor
open Go.RowKit
namespace H
/-- A block whose cells are known, none of them frozen. -/
def Blk (g : Nat) (cs : Array Value) (t : TypeId) (w : World) : Prop := w.heap[g]? = some (.cells cs t (0, 0))
section
variable {g b : Nat} {cs : Array Value} {t : TypeId} {w w' : World}
theorem Blk.lt (h : Blk g cs t w) : g < w.heap.size := lt_of_block h
theorem Blk.but (h : Blk g cs t w) (hb : But b w w') (hne : g ≠ b) : Blk g cs t w' := (hb.block g (lt_of_block h) hne).trans h
theorem Blk.below (h : Blk g cs t w) (hb : Below w.heap.size w w') : Blk g cs t w' := (hb.block g (lt_of_block h)).trans h
theorem Blk.set (h : Blk g cs t w) (o : Nat) (v : Value) : Blk g (cs.setIfInBounds o v) t (w.setCell ⟨g, o, none⟩ v) := block_set h
theorem Blk.far (h : Blk g cs t w) {k : Nat} (hne : g ≠ k) (o : Nat) (v : Value) : Blk g cs t (w.setCell ⟨k, o, none⟩ v) := (Below.heap_setCell w ⟨k, o, none⟩ v g hne).trans h
theorem Blk.new (w : World) (cs : Array Value) (t : TypeId) : Blk w.heap.size cs t (w.alloc (.cells cs t)) := heap_alloc_new w _
theorem Blk.alloc (h : Blk g cs t w) (o : Obj) : Blk g cs t (w.alloc o) := (Below.heap_alloc w o g (lt_of_block h)).trans h
theorem Blk.drewN (h : Blk g cs t w) (n : Nat) : Blk g cs t (w.drewN n) := h
theorem But.alloc {u : World} (h : But b u w) (o : Obj) : But b u (w.alloc o) := h.trans (But.of ((Below.refl _ _).alloc (Nat.le_refl _) o))
/-- A store to a block that is newer. -/
theorem But.late {u : World} (h : But b u w) {k : Nat} (hk : u.heap.size ≤ k) (o : Nat) (v : Value) : But b u (w.setCell ⟨k, o, none⟩ v) :=
 ⟨h.os, h.tape, h.output, by have := h.size; simpa [World.setCell] using this, fun g hg hn => (Below.heap_setCell w ⟨k, o, none⟩ v g (by show g ≠ k; omega)).trans (h.block g hg hn)⟩
end
end H
end Go.Proofs.YtafkeolpadfjfaaGreatDoor
namespace Go.Proofs.YtafkeolpadfjfaaGreatDoor
open Go.RowKit
namespace H
/-- The slice v has n elements, whose cells are xs; its block is one of S. -/
def RowAt (S : Nat → Prop) (w : World) (v : Value) (n : Nat) (xs : List Value) : Prop :=
 (v = .slice none 0 0 ∧ n = 0) ∨ ∃ g cap, v = .slice (some ⟨g, 0, none⟩) n cap ∧ 0 < n ∧ S g ∧ g < w.heap.size ∧ ∀ o, o < xs.length → w.cell? ⟨g, o, none⟩ = xs[o]?
/-- All blocks of S are as they were, and lie in S'. -/
def Kept (S S' : Nat → Prop) (w w' : World) : Prop := w.heap.size ≤ w'.heap.size ∧ ∀ g, S g → g < w.heap.size → S' g ∧ w'.heap[g]? = w.heap[g]?
theorem Kept.below {S : Nat → Prop} {w w' : World} (h : Below w.heap.size w w') : Kept S S w w' := ⟨h.size, fun g hg hlt => ⟨hg, h.block g hlt⟩⟩
theorem Kept.but {B b : Nat} {w w' : World} (h : But b w w') (hb : b < B) : Kept (B ≤ ·) (B ≤ ·) w w' := ⟨h.size, fun g hg hlt => ⟨hg, h.block g hlt (by omega)⟩⟩
theorem Kept.late {B B' : Nat} {w : World} (hB : B' ≤ B) : Kept (B ≤ ·) (B' ≤ ·) w w := ⟨Nat.le_refl _, fun g hg _ => ⟨by omega, rfl⟩⟩
theorem Kept.wide {S S' : Nat → Prop} {w : World} (h : ∀ g, S g → S' g) : Kept S S' w w := ⟨Nat.le_refl _, fun g hg _ => ⟨h g hg, rfl⟩⟩
theorem Kept.trans {S S' S'' : Nat → Prop} {u v w : World} (h : Kept S S' u v) (k : Kept S' S'' v w) : Kept S S'' u w :=
 ⟨Nat.le_trans h.1 k.1, fun g hg hlt => by
  obtain ⟨h1, h2⟩ := h.2 g hg hlt
  obtain ⟨k1, k2⟩ := k.2 g h1 (Nat.lt_of_lt_of_le hlt h.1)
  exact ⟨k1, k2.trans h2⟩⟩
theorem Kept.refl {S : Nat → Prop} (w : World) : Kept S S w w := ⟨Nat.le_refl _, fun g hg _ => ⟨hg, rfl⟩⟩
theorem Kept.alloc {S S' : Nat → Prop} {w w' : World} (h : Kept S S' w w') (o : Obj) : Kept S S' w (w'.alloc o) := h.trans (Kept.below ((Below.refl _ _).alloc (Nat.le_refl _) o))
theorem Kept.set {S S' : Nat → Prop} {w w' : World} (h : Kept S S' w w') {k : Nat} (hk : ¬ S' k) (o : Nat) (v : Value) : Kept S S' w (w'.setCell ⟨k, o, none⟩ v) :=
 h.trans ⟨by simp [World.setCell], fun g hg _ => ⟨hg, Below.heap_setCell w' ⟨k, o, none⟩ v g (fun he => hk (by have he : g = k := he; rw [← he]; exact hg))⟩⟩
theorem Kept.six {S S' : Nat → Prop} {w w' : World} (h : Kept S S' w w') {k : Nat} (hk : ¬ S' k) (v0 v1 v2 v3 v4 v5 : Value) :
  Kept S S' w ((((((w'.setCell ⟨k, 0, none⟩ v0).setCell ⟨k, 1, none⟩ v1).setCell ⟨k, 2, none⟩ v2).setCell ⟨k, 3, none⟩ v3).setCell ⟨k, 4, none⟩ v4).setCell ⟨k, 5, none⟩ v5) :=
 (((((h.set hk 0 v0).set hk 1 v1).set hk 2 v2).set hk 3 v3).set hk 4 v4).set hk 5 v5
theorem RowAt.keep {S S' : Nat → Prop} {w w' : World} {v : Value} {n : Nat} {xs : List Value} (h : RowAt S w v n xs) (k : Kept S S' w w') : RowAt S' w' v n xs := by
 rcases h with h | ⟨g, cap, rfl, hn, hS, hlt, hc⟩
 ·exact Or.inl h
 ·obtain ⟨k1, k2⟩ := k.2 g hS hlt
  exact Or.inr ⟨g, cap, rfl, hn, k1, Nat.lt_of_lt_of_le hlt k.1, fun o ho => (World.cell?_of_block k2).trans (hc o ho)⟩
theorem RowAt.of_own {S : Nat → Prop} {w : World} {base : Nat} {e : TypeId} {size : Nat} {v : Value} {n : Nat} {xs : List Value} (h : w.ownsRow base e size v n xs) (hn : n = 0 → v = .slice none 0 0) (hS : ∀ g, v.ownBlock = some g → base ≤ g → S g) : RowAt S w v n xs := by
 rcases h.2 with ⟨h1, h2⟩ | ⟨g, cap, cur, rfl, hb, hg, _⟩
 ·exact Or.inl ⟨h1, h2⟩
 ·refine Or.inr ⟨g, cap, rfl, Nat.pos_of_ne_zero (fun h0 => (by cases hn h0)), hS g rfl hb, lt_of_block hg, fun o ho => ?_⟩
  exact h.cellAt o (by rw [← h.1]; exact ho)
/-- A list in memory: each element's cells (c), and what lies behind its own slice (I). -/
def ListAt {α : Type} (c : α → Value → List Value) (I : (Nat → Prop) → World → Value → α → Prop) (S : Nat → Prop) (w : World) (v : Value) (l : List α) : Prop :=
 ∃ ps : List (α × Value), ps.map (·.1) = l ∧ RowAt S w v l.length (ps.flatMap fun p => c p.1 p.2) ∧ ∀ p ∈ ps, I S w p.2 p.1
/-- A list that the call owns, and goes on with. -/
def OwnAt {α : Type} (c : α → Value → List Value) (I : (Nat → Prop) → World → Value → α → Prop) (base : Nat) (e : TypeId) (size : Nat) (w : World) (v : Value) (l : List α) : Prop :=
 ∃ ps : List (α × Value), ps.map (·.1) = l ∧ w.ownsRow base e size v l.length (ps.flatMap fun p => c p.1 p.2) ∧ (∀ p ∈ ps, I (fun k => base ≤ k ∧ v.ownBlock ≠ some k) w p.2 p.1) ∧ (l.length = 0 → v = .slice none 0 0)
def Keeps {α : Type} (I : (Nat → Prop) → World → Value → α → Prop) : Prop := ∀ {S S' : Nat → Prop} {w w' : World} {v : Value} {x : α}, I S w v x → Kept S S' w w' → I S' w' v x
section
variable {α : Type} {c : α → Value → List Value} {I : (Nat → Prop) → World → Value → α → Prop} {S S' : Nat → Prop} {w w' : World} {v : Value} {l : List α} {base size : Nat} {e : TypeId}
theorem ListAt.keep (hI : Keeps I) (h : ListAt c I S w v l) (k : Kept S S' w w') : ListAt c I S' w' v l := by
 obtain ⟨ps, h1, h2, h3⟩ := h
 exact ⟨ps, h1, h2.keep k, fun p hp => hI (h3 p hp) k⟩
theorem ListAt.nil : ListAt c I S w (.slice none 0 0) [] := ⟨[], rfl, Or.inl ⟨rfl, rfl⟩, fun p hp => (by cases hp)⟩
theorem OwnAt.nil : OwnAt c I base e size w (.slice none 0 0) [] := ⟨[], rfl, World.ownsRow_nil _ _ _ _, fun p hp => (by cases hp), fun _ => rfl⟩
theorem OwnAt.list (hI : Keeps I) (h : OwnAt c I base e size w v l) : ListAt c I (base ≤ ·) w v l := by
 obtain ⟨ps, h1, h2, h3, h4⟩ := h
 exact ⟨ps, h1, RowAt.of_own h2 h4 (fun g _ hb => hb), fun p hp => hI (h3 p hp) (Kept.wide (fun g hg => hg.1))⟩
theorem OwnAt.keep (hI : Keeps I) (h : OwnAt c I base e size w v l) (k : Kept (base ≤ ·) (base ≤ ·) w w') : OwnAt c I base e size w' v l := by
 obtain ⟨ps, h1, h2, h3, h4⟩ := h
 refine ⟨ps, h1, ⟨h2.1, ?_⟩, fun p hp => hI (h3 p hp) ⟨k.1, fun g hg hlt => ⟨hg, (k.2 g hg.1 hlt).2⟩⟩, h4⟩
 rcases h2.2 with hn | ⟨g, cap, cur, rfl, hb, hgg, rest⟩
 ·exact Or.inl hn
 ·exact Or.inr ⟨g, cap, cur, rfl, hb, (k.2 g hb (lt_of_block hgg)).2.trans hgg, rest⟩
theorem OwnAt.form (h : OwnAt c I base e size w v l) : ∃ ao cap, v = .slice ao l.length cap := by
 obtain ⟨ps, h1, h2, h3⟩ := h
 rcases h2.2 with ⟨hv, hn⟩ | ⟨g, cap, cur, rfl, hb, hgg, rest⟩
 ·exact ⟨none, 0, by rw [hv, hn]⟩
 ·exact ⟨_, cap, rfl⟩
theorem ListAt.form (h : ListAt c I S w v l) : ∃ ao cap, v = .slice ao l.length cap := by
 obtain ⟨ps, h1, h2, h3⟩ := h
 rcases h2 with ⟨hv, hn⟩ | ⟨g, cap, rfl, _⟩
 ·exact ⟨none, 0, by rw [hv, hn]⟩
 ·exact ⟨_, cap, rfl⟩
/-- One more element, behind an append. -/
theorem OwnAt.append (hI : Keeps I) {g cap : Nat} {x : α} {vx : Value} {u : World} (h1 : ∃ ps : List (α × Value), ps.map (·.1) = l ∧ u.ownsRow base e size (.slice (some ⟨g, 0, none⟩) (l.length + 1) cap) (l.length + 1) ((ps.flatMap fun p => c p.1 p.2) ++ c x vx) ∧ ∀ p ∈ ps, I (fun k => base ≤ k ∧ v.ownBlock ≠ some k) w p.2 p.1)
  (hg : w.grownBy u v.ownBlock) (hat : v.ownBlock = some g ∨ w.heap.size ≤ g) (hx : I (fun k => base ≤ k ∧ v.ownBlock ≠ some k) w vx x) :
  OwnAt c I base e size u (.slice (some ⟨g, 0, none⟩) (l.length + 1) cap) (l ++ [x]) := by
 obtain ⟨ps, h1, h2, h3⟩ := h1
 have hk : Kept (fun k => base ≤ k ∧ v.ownBlock ≠ some k) (fun k => base ≤ k ∧ (Value.slice (some ⟨g, 0, none⟩) (l.length + 1) cap).ownBlock ≠ some k) w u := by
  refine ⟨hg.size, fun k hk hlt => ⟨⟨hk.1, ?_⟩, hg.block k hlt (fun h => hk.2 h.symm)⟩⟩
  intro he
  have he : g = k := by simpa [Value.ownBlock] using he
  subst he
  rcases hat with h | h
  ·exact hk.2 h
  ·omega
 refine ⟨ps ++ [(x, vx)], by rw [List.map_append, h1]; rfl, ?_, ?_, fun h0 => (by rw [List.length_append] at h0; simp at h0)⟩
 ·rw [List.flatMap_append, List.length_append]
  simpa using h2
 ·intro p hp
  rcases List.mem_append.1 hp with hp | hp
  ·exact hI (h3 p hp) hk
  ·obtain rfl : p = (x, vx) := by simpa using hp
   exact hI hx hk
theorem flat_at {β : Type} {f : β → List Value} {size : Nat} (hf : ∀ b, (f b).length = size) : ∀ (ps : List β) (k : Nat) (hk : k < ps.length) (o : Nat), o < size → (ps.flatMap f)[k * size + o]? = (f ps[k])[o]?
 | [], k, hk, o, ho => by simp at hk
 | p :: ps, 0, hk, o, ho => by
  rw [List.flatMap_cons, Nat.zero_mul, Nat.zero_add, List.getElem?_append_left (by rw [hf]; exact ho)]; rfl
 | p :: ps, k + 1, hk, o, ho => by
  have e : (k + 1) * size + o = size + (k * size + o) := by rw [Nat.succ_mul]; omega
  rw [List.flatMap_cons, e, List.getElem?_append_right (by rw [hf]; omega), hf, Nat.add_sub_cancel_left]
  exact flat_at hf ps k (by simpa using hk) o ho
theorem flat_len {β : Type} {f : β → List Value} {size : Nat} (hf : ∀ b, (f b).length = size) : ∀ (ps : List β), (ps.flatMap f).length = ps.length * size
 | [] => by simp
 | p :: ps => by rw [List.flatMap_cons, List.length_append, hf, flat_len hf ps, List.length_cons, Nat.succ_mul]; omega
/-- The cells of an element, and what lies behind it. -/
theorem ListAt.at_ {g n cap : Nat} (hc : ∀ x v, (c x v).length = size) (h : ListAt c I S w (.slice (some ⟨g, 0, none⟩) n cap) l) {k : Nat} (hk : k < l.length) :
  g < w.heap.size ∧ n = l.length ∧ S g ∧ ∃ vk, (∀ o, o < size → w.cell? ⟨g, k * size + o, none⟩ = (c l[k] vk)[o]?) ∧ I S w vk l[k] := by
 obtain ⟨ps, rfl, h2, h3⟩ := h
 have hk' : k < ps.length := by simpa using hk
 rcases h2 with ⟨hv, hn⟩ | ⟨g', cap', hv, hnn, hS, hlt, hcell⟩
 ·cases hv
 ·simp only [Value.slice.injEq, Option.some.injEq, Addr.mk.injEq, and_true, true_and] at hv
  obtain ⟨rfl, rfl, rfl⟩ := hv
  refine ⟨hlt, rfl, hS, ps[k].2, fun o ho => ?_, by simpa using h3 ps[k] (List.getElem_mem _)⟩
  have hf : ∀ b : α × Value, (c b.1 b.2).length = size := fun b => hc _ _
  rw [hcell _ (by
   rw [flat_len hf]
   have : (k + 1) * size ≤ ps.length * size := Nat.mul_le_mul_right _ hk'
   rw [Nat.succ_mul] at this
   omega), flat_at hf ps k hk' o ho]
  simp
theorem ListAt.none_ {n cap : Nat} (h : ListAt c I S w (.slice none n cap) l) : l = [] := by
 obtain ⟨ps, rfl, h2, h3⟩ := h
 rcases h2 with ⟨hv, hn⟩ | ⟨g', cap', hv, _⟩
 ·exact List.eq_nil_of_length_eq_zero hn
 ·cases hv
end
end H
end Go.Proofs.YtafkeolpadfjfaaGreatDoor
namespace Go.Proofs.YtafkeolpadfjfaaGreatDoor
open Go.RowKit
namespace H
def OwnIn {α : Type} (c : α → Value → List Value) (I : (Nat → Prop) → World → Value → α → Prop) (S : Nat → Prop) (base : Nat) (e : TypeId) (size : Nat) (w : World) (v : Value) (l : List α) : Prop :=
 ∃ ps : List (α × Value), ps.map (·.1) = l ∧ w.ownsRow base e size v l.length (ps.flatMap fun p => c p.1 p.2) ∧ (∀ p ∈ ps, I (fun k => S k ∧ v.ownBlock ≠ some k) w p.2 p.1) ∧ (l.length = 0 → v = .slice none 0 0) ∧ ∀ g, v.ownBlock = some g → S g
section
variable {α : Type} {c : α → Value → List Value} {I : (Nat → Prop) → World → Value → α → Prop} {S S' : Nat → Prop} {w w' : World} {v : Value} {l : List α} {base size : Nat} {e : TypeId}
theorem OwnIn.nil : OwnIn c I S base e size w (.slice none 0 0) [] := ⟨[], rfl, World.ownsRow_nil _ _ _ _, fun p hp => (by cases hp), fun _ => rfl, fun g hg => (by cases hg)⟩
theorem OwnIn.list (hI : Keeps I) (h : OwnIn c I S base e size w v l) : ListAt c I S w v l := by
 obtain ⟨ps, h1, h2, h3, h4, h5⟩ := h
 exact ⟨ps, h1, RowAt.of_own h2 h4 (fun g hg _ => h5 g hg), fun p hp => hI (h3 p hp) (Kept.wide (fun g hg => hg.1))⟩
theorem OwnIn.keep (hI : Keeps I) (h : OwnIn c I S base e size w v l) (k : Kept S S w w') : OwnIn c I S base e size w' v l := by
 obtain ⟨ps, h1, h2, h3, h4, h5⟩ := h
 refine ⟨ps, h1, ⟨h2.1, ?_⟩, fun p hp => hI (h3 p hp) ⟨k.1, fun g hg hlt => ⟨hg, (k.2 g hg.1 hlt).2⟩⟩, h4, h5⟩
 rcases h2.2 with hn | ⟨g, cap, cur, rfl, hb, hgg, rest⟩
 ·exact Or.inl hn
 ·exact Or.inr ⟨g, cap, cur, rfl, hb, (k.2 g (h5 g rfl) (lt_of_block hgg)).2.trans hgg, rest⟩
theorem OwnIn.form (h : OwnIn c I S base e size w v l) : ∃ ao cap, v = .slice ao l.length cap := by
 obtain ⟨ps, h1, h2, h3⟩ := h
 rcases h2.2 with ⟨hv, hn⟩ | ⟨g, cap, cur, rfl, hb, hgg, rest⟩
 ·exact ⟨none, 0, by rw [hv, hn]⟩
 ·exact ⟨_, cap, rfl⟩
theorem OwnIn.lt (h : OwnIn c I S base e size w v l) {g : Nat} (hg : v.ownBlock = some g) : S g ∧ base ≤ g ∧ g < w.heap.size := by
 obtain ⟨ps, h1, h2, h3, h4, h5⟩ := h
 exact ⟨h5 g hg, h2.lt g hg⟩
/-- One more element, behind an append. -/
theorem OwnIn.append (hI : Keeps I) {g cap : Nat} {x : α} {vx : Value} {u : World} {ps : List (α × Value)} (h1 : ps.map (·.1) = l) (h2 : u.ownsRow base e size (.slice (some ⟨g, 0, none⟩) (l.length + 1) cap) (l.length + 1) ((ps.flatMap fun p => c p.1 p.2) ++ c x vx))
  (h3 : ∀ p ∈ ps, I (fun k => S k ∧ v.ownBlock ≠ some k) w p.2 p.1)
  (hg : w.grownBy u v.ownBlock) (hat : (v.ownBlock = some g ∧ S g) ∨ (w.heap.size ≤ g ∧ S g)) (hx : I (fun k => S k ∧ v.ownBlock ≠ some k) w vx x) :
  OwnIn c I S base e size u (.slice (some ⟨g, 0, none⟩) (l.length + 1) cap) (l ++ [x]) := by
 have hk : Kept (fun k => S k ∧ v.ownBlock ≠ some k) (fun k => S k ∧ (Value.slice (some ⟨g, 0, none⟩) (l.length + 1) cap).ownBlock ≠ some k) w u := by
  refine ⟨hg.size, fun k hk hlt => ⟨⟨hk.1, ?_⟩, hg.block k hlt (fun h => hk.2 h.symm)⟩⟩
  intro he
  have he : g = k := by simpa [Value.ownBlock] using he
  subst he
  rcases hat with h | h
  ·exact hk.2 h.1
  ·omega
 refine ⟨ps ++ [(x, vx)], by rw [List.map_append, h1]; rfl, ?_, ?_, fun h0 => (by rw [List.length_append] at h0; simp at h0), ?_⟩
 ·rw [List.flatMap_append, List.length_append]
  simpa using h2
 ·intro p hp
  rcases List.mem_append.1 hp with hp | hp
  ·exact hI (h3 p hp) hk
  ·obtain rfl : p = (x, vx) := by simpa using hp
   exact hI hx hk
 ·intro k hk'
  have he : g = k := by simpa [Value.ownBlock] using hk'
  subst he
  exact hat.elim (·.2) (·.2)
/-- A row that is laid at once with one element. -/
theorem OwnIn.one (w : World) {x : α} {vx : Value} {S : Nat → Prop} (hb : base ≤ w.heap.size) (hs : (c x vx).length = size) (hS : S w.heap.size) (hI : Keeps I) (hx : I (fun k => S k ∧ k < w.heap.size) w vx x) :
  OwnIn c I S base e size (w.alloc (.cells (c x vx).toArray e)) (.slice (some ⟨w.heap.size, 0, none⟩) 1 1) [x] := by
 refine ⟨[(x, vx)], rfl, ?_, ?_, fun h => (by cases h), ?_⟩
 ·have := World.ownsRow_lit (e := e) (base := base) (size := size) w (c x vx).toArray 1 hb (by unfold maxLen; omega) (by simpa using hs)
  simpa using this
 ·intro p hp
  obtain rfl : p = (x, vx) := by simpa using hp
  refine hI hx ⟨by simp, fun g hg hlt => ⟨⟨hg.1, ?_⟩, Below.heap_alloc w _ g hlt⟩⟩
  intro he
  have he : w.heap.size = g := by simpa [Value.ownBlock] using he
  omega
 ·intro g hg
  have he : w.heap.size = g := by simpa [Value.ownBlock] using hg
  rw [← he]; exact hS
end
end H
end Go.Proofs.YtafkeolpadfjfaaGreatDoor
