/- What the reference's number comes to. What the reference's size and count come to. What the reference's table comes to. What the reference's one and color come to. What the reference's Parse comes to. -/
import Derived.Test.YtafkeolpadfjfaaGreatDoorOwn
import Derived.Test.YtafkeolpadfjfaaGreatDoorSty1
import Derived.Deep.CutBlock
import Derived.Deep.LoopGhost
import Derived.Test.YtafkeolpadfjfaaGreatDoorSty19
import Derived.Test.YtafkeolpadfjfaaGreatDoorCaseLaw
import Derived.Test.YtafkeolpadfjfaaGreatDoorTrim
set_option linter.unusedVariables false
set_option linter.unusedSimpArgs false
namespace Go.Proofs.YtafkeolpadfjfaaGreatDoor
open Go.RowKit
namespace V
open H Y
theorem take_natOf {D : List UInt8} {k : Nat} {c : UInt8} {r : List UInt8} (h : D.drop k = c :: r) : S.natOf (D.take (k + 1)) = S.natOf (D.take k) * 10 + (c.toNat - 48) := by
 have : D.take (k + 1) = D.take k ++ [c] := by
  have hk := lt_drop h
  rw [List.take_add_one, List.getElem?_eq_getElem hk]
  have := List.drop_eq_getElem_cons hk
  rw [h] at this
  injection this with h1 _
  rw [← h1]; rfl
 rw [this, S.natOf_snoc]
theorem drop_app {D R : List UInt8} {k : Nat} {c : UInt8} {r : List UInt8} (h : D.drop k = c :: r) : (D ++ R).drop k = c :: (r ++ R) := by
 have hk := lt_drop h
 rw [List.drop_append, h, show k - D.length = 0 by omega]; rfl
theorem drop_end' {D R : List UInt8} {k : Nat} (h : k = D.length) : (D ++ R).drop k = R := by rw [h, List.drop_left]
theorem isDig_head {t : List UInt8} {c : UInt8} {r : List UInt8} (h : t.dropWhile S.isDig = c :: r) : S.isDig c = false := by
 induction t with
 | nil => cases h
 | cons a t ih =>
  cases ha : S.isDig a with
  | true => rw [List.dropWhile_cons_of_pos ha] at h; exact ih h
  | false =>
   rw [List.dropWhile_cons_of_neg (by rw [ha]; simp)] at h
   injection h with h1 _
   rw [← h1]; exact ha
theorem take_dig {D : List UInt8} (hD : ∀ c ∈ D, S.isDig c = true) (k : Nat) (hk : k ≤ 8) : S.natOf (D.take k) ≤ 99999999 := by
 have h := S.natOf_lt (l := D.take k) (fun c hc => hD c (List.mem_of_mem_take hc))
 have h2 : 10 ^ (D.take k).length ≤ 10 ^ 8 := Nat.pow_le_pow_right (by decide) (by rw [List.length_take]; omega)
 have : (10 : Nat) ^ 8 = 100000000 := by decide
 omega
set_option maxHeartbeats 16000000 in
set_option maxRecDepth 100000 in
theorem number (s : List UInt8) (w : World) (hs : s.length ≤ 100000) : Calls Tryz.prog 79 #[.string ⟨s.toArray⟩] w (DecPost s w) := by
 have hcs := sign_cases s
 obtain ⟨sg, u, hsg⟩ : ∃ sg u, S.signOf s = (sg, u) := ⟨_, _, rfl⟩
 have hlu : u.length ≤ s.length ∧ (sg = 1 ∨ sg = -1) := by
  rcases hcs with ⟨h, h2⟩ | ⟨t, h, h2⟩ | ⟨t, h, h2⟩ | ⟨c, t, h, _, _, h2⟩ <;> (rw [hsg] at h2; simp only [Prod.mk.injEq] at h2; obtain ⟨rfl, rfl⟩ := h2; rw [h]; simp)
 have HD := Lib.hid (dec_tail hsg)
 generalize hdS : S.decimal s = dS at HD
 have HDS := Lib.hid hdS
 have hD := S.tw_dig u
 have hu : u.takeWhile S.isDig ++ u.dropWhile S.isDig = u := List.takeWhile_append_dropWhile
 have hr := S.drop_tw S.isDig u
 have zu := bytes_size u
 have zs := bytes_size s
 have HT : Hid (decTail sg u = if (u.takeWhile S.isDig).length < 1 ∨ 7 < (u.takeWhile S.isDig).length then none
  else match S.frac (S.natOf (u.takeWhile S.isDig) * 1000) (u.dropWhile S.isDig) with
   | none => none
   | some (n, r) => if n ≤ 1048576000 then some (sg * n, r) else none) := Lib.hid rfl
 have hkl := S.tw_le S.isDig u
 have hx2 := cut_back u (u.takeWhile S.isDig).length hkl
 have HRd := Lib.hid (fun c r (h : u.dropWhile S.isDig = c :: r) => isDig_head h)
 rw [hr] at hx2
 have hRl : (u.dropWhile S.isDig).length ≤ u.length := by rw [← hr, List.length_drop]; omega
 clear hr hdS
 generalize u.takeWhile S.isDig = D at *
 generalize u.dropWhile S.isDig = R at *
 have HU := Lib.hid hu
 have HDd := Lib.hid hD
 have HCs := Lib.hid hcs
 have HX2 := Lib.hid hx2
 clear hD hcs hu hx2
 obtain ⟨hlu1, hlu2⟩ := hlu
 have HLu := Lib.hid hlu1
 have HSg := Lib.hid hlu2
 clear hlu1 hlu2
 have HB : ∃ B : Bool, Hid ((B = true ∧ ∃ c t, s = c :: t ∧ ((c = 45 ∧ sg = -1) ∨ (c = 43 ∧ sg = 1)) ∧ u = t) ∨ (B = false ∧ u = s ∧ sg = 1 ∧ (s = [] ∨ ∃ c t, s = c :: t ∧ c ≠ 45 ∧ c ≠ 43))) := by
  rcases HCs.out with ⟨h, h2⟩ | ⟨t, h, h2⟩ | ⟨t, h, h2⟩ | ⟨c, t, h, h3, h4, h2⟩ <;> (rw [hsg] at h2; simp only [Prod.mk.injEq] at h2; obtain ⟨h5, h6⟩ := h2)
  ·exact ⟨false, Lib.hid (Or.inr ⟨rfl, by rw [h6, h], h5, Or.inl h⟩)⟩
  ·exact ⟨true, Lib.hid (Or.inl ⟨rfl, 45, t, h, Or.inl ⟨rfl, h5⟩, h6⟩)⟩
  ·exact ⟨true, Lib.hid (Or.inl ⟨rfl, 43, t, h, Or.inr ⟨rfl, h5⟩, h6⟩)⟩
  ·exact ⟨false, Lib.hid (Or.inr ⟨rfl, by rw [h6, h], h5, Or.inr ⟨c, t, h, h3, h4⟩⟩)⟩
 obtain ⟨B, HB⟩ := HB
 clear HCs hsg
 go_enter Tryz.func79, Tryz.ntmps79
 go_upto_region 2 with fail
 go_cut [20] (fun v20 wx => v20 = .bool B ∧ Hid (w = wx))
 case first =>
  rcases HB.out with ⟨rfl, c, t, rfl, hc, rfl⟩ | ⟨rfl, rfl, rfl, rfl | ⟨c, t, rfl, hc1, hc2⟩⟩
  ·have hix := fun h => index0 (c := c) (t := u) h
   rcases hc with ⟨hc, _⟩ | ⟨hc, _⟩
   ·have e2 := byte_is (c := c) (n := 45) (by rw [hc]; rfl) (by decide)
    have n2 : (c.toNat : Int) = 45 := by simpa using e2
    clear hc
    go_wp2_with fail
    go_meet
    exact ⟨rfl, Lib.hid (by first | rfl | trivial)⟩
   ·have e1 := byte_is (c := c) (n := 43) (by rw [hc]; rfl) (by decide)
    have e2 := byte_ne (c := c) (n := 45) (by rw [hc]; decide) (by decide)
    have n1 : (c.toNat : Int) = 43 := by simpa using e1
    have n2 : ¬ (c.toNat : Int) = 45 := by simpa using e2
    clear hc
    go_wp2_with fail
    go_meet
    exact ⟨rfl, Lib.hid (by first | rfl | trivial)⟩
  ·go_wp2_with fail
   go_meet
   exact ⟨rfl, Lib.hid (by first | rfl | trivial)⟩
  ·have hix := fun h => index0 (c := c) (t := t) h
   have e1 := byte_ne (c := c) (n := 43) hc2 (by decide)
   have e2 := byte_ne (c := c) (n := 45) hc1 (by decide)
   have n1 : ¬ (c.toNat : Int) = 43 := by simpa using e1
   have n2 : ¬ (c.toNat : Int) = 45 := by simpa using e2
   clear hc1 hc2
   go_wp2_with fail
   go_meet
   exact ⟨by simp [n1, n2], Lib.hid (by first | rfl | trivial)⟩
 case rest =>
  obtain ⟨rfl, HW⟩ := hcut
  obtain rfl := HW.out
  clear HW
  go_upto_if 20 with fail
  go_cut [0, 5] (fun v0 v5 wx => v0 = .string ⟨u.toArray⟩ ∧ v5 = .int .i64 sg ∧ Hid (w = wx))
  case first =>
   rcases HB.out with ⟨rfl, c, t, rfl, hc, rfl⟩ | ⟨rfl, rfl, rfl, _⟩
   ·have hix := fun h => index0 (c := c) (t := u) h
    have hx := cut_back (c :: u) 1 (by simp)
    simp only [List.length_cons, List.drop_succ_cons, List.drop_zero] at hx
    rcases hc with ⟨hc, rfl⟩ | ⟨hc, rfl⟩
    ·have e2 := byte_is (c := c) (n := 45) (by rw [hc]; rfl) (by decide)
     have n2 : (c.toNat : Int) = 45 := by simpa using e2
     clear hc
     go_wp2_with fail
     go_meet
     exact ⟨by first | rfl | (rw [hx]), rfl, Lib.hid (by first | rfl | trivial)⟩
    ·have e2 := byte_ne (c := c) (n := 45) (by rw [hc]; decide) (by decide)
     have n2 : ¬ (c.toNat : Int) = 45 := by simpa using e2
     clear hc
     go_wp2_with fail
     go_meet
     exact ⟨by first | rfl | (rw [hx]), rfl, Lib.hid (by first | rfl | trivial)⟩
   ·go_wp2_with fail
    go_meet
    exact ⟨rfl, rfl, Lib.hid (by first | rfl | trivial)⟩
  case rest =>
   obtain ⟨rfl, rfl, HW⟩ := hcut
   obtain rfl := HW.out
   clear HW HB
   go_upto_block 0 with fail
   go_cut [6, 7] (fun v6 v7 wx => ∃ k m : Nat, v6 = .int .i64 m ∧ v7 = .int .i64 k ∧ Hid (k ≤ 8 ∧ (D.length ≤ 7 → k = D.length ∧ m = S.natOf D) ∧ (7 < D.length → k = 8)) ∧ Hid (w = wx))
   case first =>
    go_wp2_with fail
    go_loopw [6, 7] (fun v6 v7 wr => ∃ k : Nat, v6 = .int .i64 (S.natOf (D.take k) : Nat) ∧ v7 = .int .i64 k ∧ k ≤ 8 ∧ k ≤ D.length ∧ Hid (w = wr)) (fun _ v7 _ => 8 - (intOf v7).toNat)
    case atStart => exact ⟨0, rfl, rfl, by omega, by omega, Lib.hid (by first | rfl | trivial)⟩
    case round =>
     obtain ⟨k, rfl, rfl, hk8, hkD, HW⟩ := hrel
     obtain rfl := HW.out
     clear HW
     by_cases hlt : k < D.length
     ·obtain ⟨c, r, hd⟩ := drop_cons hlt
      have hud : u.drop k = c :: (r ++ R) := by rw [← HU.out]; exact drop_app hd
      have hul := lt_drop hud
      have hix := at_drop hud (by rw [bytes_size]; exact hul)
      have hulI : (k : Int) < (u.length : Int) := by omega
      have hk0 : (0 : Int) ≤ (k : Int) := by omega
      have hcd := HDd.out c (by
       have : c ∈ D.drop k := by rw [hd]; exact List.mem_cons_self ..
       exact List.mem_of_mem_drop this)
      obtain ⟨d1, d2⟩ := (S.isDig_iff c).1 hcd
      have e1 : (48 : Int) ≤ (c.toNat : Int) := by omega
      have e2 : (c.toNat : Int) ≤ 57 := by omega
      have f1 : decide ((48 : Int) ≤ (c.toNat : Int)) = true := decide_eq_true e1
      have f2 : decide ((c.toNat : Int) ≤ 57) = true := decide_eq_true e2
      have htn := take_natOf hd
      have HTN := Lib.hid htn
      have hb := take_dig HDd.out k hk8
      clear htn
      generalize S.natOf (D.take k) = m at *
      by_cases h8 : k < 8
      ·have e3 : (k : Int) < 8 := by omega
       have f3 : decide ((k : Int) < 8) = true := decide_eq_true e3
       have w1 : IntKind.i64.wrap ((m : Int) * 10) = (m : Int) * 10 := IntWalk.i64_in _ (by omega)
       have w2 : IntKind.u8.wrap ((c.toNat : Int) - 48) = (c.toNat : Int) - 48 := by
        have := d1
        rw [show (c.toNat : Int) - 48 = ((c.toNat - 48 : Nat) : Int) by omega]
        exact IntWalk.u8_in _ (by omega)
       have w3 : IntKind.i64.wrap ((m : Int) * 10 + ((c.toNat : Int) - 48)) = (m : Int) * 10 + ((c.toNat : Int) - 48) := IntWalk.i64_in _ (by omega)
       have w4 : IntKind.i64.wrap ((c.toNat : Int) - 48) = (c.toNat : Int) - 48 := IntWalk.i64_in _ (by omega)
       clear hd hud hcd
       have HD1 := Lib.hid d1
       go_wp2_with fail
       go_roundw
       case rel => exact ⟨k + 1, congrArg (Value.int IntKind.i64) (by have h9 := HTN.out; have h7 := HD1.out; rw [h9]; push_cast [Nat.sub_add_cancel]; omega), by go_num, by omega, by omega, Lib.hid (by first | rfl | trivial)⟩
       case measure => simp [intOf]; omega
      ·have e3 : ¬ (k : Int) < 8 := by omega
       have f3 : decide ((k : Int) < 8) = false := decide_eq_false e3
       clear hd hud hcd HTN
       go_wp2_with fail
       go_meet
       exact ⟨k, m, rfl, rfl, Lib.hid ⟨hk8, fun h => by omega, fun h => by omega⟩, Lib.hid (by first | rfl | trivial)⟩
     ·obtain rfl : k = D.length := by omega
      rw [List.take_length]
      have hmb := take_dig HDd.out D.length hk8
      rw [List.take_length] at hmb
      have hud : u.drop D.length = R := by rw [← HU.out]; exact drop_end' rfl
      have HRd2 := HRd.out
      generalize S.natOf D = m at *
      have hk0 : (0 : Int) ≤ (D.length : Int) := by omega
      cases R with
      | nil =>
       have hul : u.length = D.length := by have := congrArg List.length HU.out; rw [List.length_append] at this; simpa using this.symm
       have e0 : ¬ (D.length : Int) < (u.length : Int) := by omega
       have f0 : decide ((D.length : Int) < (u.length : Int)) = false := decide_eq_false e0
       clear hud HRd2 hul
       go_wp2_with fail
       go_meet
       exact ⟨D.length, m, rfl, rfl, Lib.hid ⟨hk8, fun _ => ⟨rfl, rfl⟩, fun h => by omega⟩, Lib.hid (by first | rfl | trivial)⟩
      | cons c r =>
       have hul := lt_drop hud
       have hix := at_drop hud (by rw [bytes_size]; exact hul)
       have e0 : (D.length : Int) < (u.length : Int) := by omega
       have hc := HRd2 c r rfl
       clear hud HRd2
       rcases isDig_no1 hc with h | h
       ·have e1 : ¬ (48 : Int) ≤ (c.toNat : Int) := by omega
        have f1 : decide ((48 : Int) ≤ (c.toNat : Int)) = false := decide_eq_false e1
        clear hc h
        go_wp2_with fail
        go_meet
        exact ⟨D.length, m, rfl, rfl, Lib.hid ⟨hk8, fun _ => ⟨rfl, rfl⟩, fun h => by omega⟩, Lib.hid (by first | rfl | trivial)⟩
       ·have e1 : (48 : Int) ≤ (c.toNat : Int) := by omega
        have f1 : decide ((48 : Int) ≤ (c.toNat : Int)) = true := decide_eq_true e1
        have e2 : ¬ (c.toNat : Int) ≤ 57 := by omega
        have f2 : decide ((c.toNat : Int) ≤ 57) = false := decide_eq_false e2
        clear hc h
        go_wp2_with fail
        go_meet
        exact ⟨D.length, m, rfl, rfl, Lib.hid ⟨hk8, fun _ => ⟨rfl, rfl⟩, fun h => by omega⟩, Lib.hid (by first | rfl | trivial)⟩
   case rest =>
    obtain ⟨k, m, rfl, rfl, HK, HW⟩ := hcut
    obtain rfl := HW.out
    clear HW
    have hk8 := HK.out.1
    rcases (by omega : D.length < 1 ∨ 7 < D.length ∨ (1 ≤ D.length ∧ D.length ≤ 7)) with h1 | h7 | ⟨h1, h7⟩
    ·have hk : k = 0 := by have := HK.out.2.1 (by omega); omega
     have HN : Hid (dS = none) := Lib.hid (by rw [HD.out, HT.out, if_pos (Or.inl h1)])
     subst hk
     clear h1
     go_wp2_with fail
     go_ret3
     exact ⟨0, u, false, rfl, Below.refl _ _, Lib.hid (fun h => by cases h), Lib.hid (fun _ => HDS.out.trans HN.out), HLu.out⟩
    ·have hk : k = 8 := HK.out.2.2 h7
     have HN : Hid (dS = none) := Lib.hid (by rw [HD.out, HT.out, if_pos (Or.inr h7)])
     subst hk
     clear h7
     go_wp2_with fail
     go_ret3
     exact ⟨0, u, false, rfl, Below.refl _ _, Lib.hid (fun h => by cases h), Lib.hid (fun _ => HDS.out.trans HN.out), HLu.out⟩
    ·obtain ⟨hk, hm⟩ := HK.out.2.1 h7
     have hm2 : m ≤ 9999999 := by
      have h := S.natOf_lt HDd.out
      have h2 : 10 ^ D.length ≤ 10 ^ 7 := Nat.pow_le_pow_right (by decide) h7
      have : (10 : Nat) ^ 7 = 10000000 := by decide
      omega
     have HN : Hid (dS = match S.frac (m * 1000) R with
      | none => none
      | some (n, r) => if n ≤ 1048576000 then some (sg * n, r) else none) := Lib.hid (by rw [HD.out, HT.out, if_neg (by omega), hm])
     have e1 : ((k : Int) == 0) = false := by rw [beq_eq_false_iff_ne]; omega
     have n1 : ¬ (k : Int) = 0 := by omega
     have n1' : ¬ k = 0 := by omega
     have e2 : ¬ (7 : Int) < (k : Int) := by omega
     have f2 : decide ((7 : Int) < (k : Int)) = false := decide_eq_false e2
     have hxk : (⟨u.toArray⟩ : ByteArray).extract k u.length = ⟨R.toArray⟩ := by rw [hk]; exact HX2.out
     have hku : (k : Int) ≤ (u.length : Int) := by omega
     have hk0 : (0 : Int) ≤ (k : Int) := by omega
     have w1 : IntKind.i64.wrap ((m : Int) * 1000) = (m : Int) * 1000 := IntWalk.i64_in _ (by omega)
     have zR := bytes_size R
     clear HK HT HD h1 h7 hk hm
     obtain ⟨B2, HB2c⟩ : ∃ B2 : Bool, Hid ((B2 = false ∧ (R = [] ∨ ∃ c t, R = c :: t ∧ c ≠ 46)) ∨ (B2 = true ∧ ∃ c t, R = c :: t ∧ c = 46)) := by
      cases R with
      | nil => exact ⟨false, Lib.hid (Or.inl ⟨rfl, Or.inl rfl⟩)⟩
      | cons c t =>
       by_cases h : c = 46
       ·exact ⟨true, Lib.hid (Or.inr ⟨rfl, c, t, rfl, h⟩)⟩
       ·exact ⟨false, Lib.hid (Or.inl ⟨rfl, Or.inr ⟨c, t, rfl, h⟩⟩)⟩
     go_upto_region 14 with fail
     go_cut [74] (fun v74 wx => v74 = .bool B2 ∧ Hid (w = wx))
     case first =>
      clear hxk w1 hku hk0
      rcases HB2c.out with ⟨rfl, rfl | ⟨c, t, rfl, hc⟩⟩ | ⟨rfl, c, t, rfl, hc⟩
      ·go_wp2_with fail
       go_meet
       exact ⟨rfl, Lib.hid (by first | rfl | trivial)⟩
      ·have hix := fun h => index0 (c := c) (t := t) h
       have e3 : ((c.toNat : Int) == 46) = false := byte_ne (c := c) (n := 46) hc (by decide)
       have n3 : ¬ (c.toNat : Int) = 46 := by simpa using e3
       clear hc
       go_wp2_with fail
       go_meet
       exact ⟨by first | rfl | simp [n3], Lib.hid (by first | rfl | trivial)⟩
      ·have hix := fun h => index0 (c := c) (t := t) h
       have e3 : ((c.toNat : Int) == 46) = true := byte_is (c := c) (n := 46) (by rw [hc]; rfl) (by decide)
       have n3 : (c.toNat : Int) = 46 := by simpa using e3
       clear hc
       go_wp2_with fail
       go_meet
       exact ⟨by first | rfl | simp [n3], Lib.hid (by first | rfl | trivial)⟩
     case rest =>
      obtain ⟨rfl, HW⟩ := hcut
      obtain rfl := HW.out
      clear HW
      go_upto_if 74 with fail
      go_cut [0, 6] (fun v0 v6 wx => ∃ (n1 : Nat) (R1 : List UInt8), v0 = .string ⟨R1.toArray⟩ ∧ v6 = .int .i64 n1 ∧ Hid (S.frac (m * 1000) R = some (n1, R1)) ∧ n1 ≤ 10000000000 ∧ R1.length ≤ s.length ∧ Hid (w = wx))
      case first =>
       rcases HB2c.out with ⟨rfl, hR⟩ | ⟨rfl, c0, t, rfl, hc⟩
       ·have hRl2 : R.length ≤ s.length := by have := HLu.out; omega
        have HFr := Lib.hid (frac_plain (m * 1000) hR)
        clear hR
        go_wp2_with fail
        go_meet
        exact ⟨m * 1000, R, rfl, congrArg (Value.int IntKind.i64) (by omega), HFr, by omega, hRl2, Lib.hid (by first | rfl | trivial)⟩
       ·have htl : t.length + 1 ≤ s.length := by have := HLu.out; simp only [List.length_cons] at hRl; omega
        have hF := S.tw_dig t
        have htT : t.takeWhile S.isDig ++ t.dropWhile S.isDig = t := List.takeWhile_append_dropWhile
        have hTd := fun c r (h : t.dropWhile S.isDig = c :: r) => isDig_head h
        have HFr : Hid (S.frac (m * 1000) (c0 :: t) = if t.takeWhile S.isDig = [] then none else some (m * 1000 + S.natOf ((t.takeWhile S.isDig ++ [48, 48]).take 3), t.dropWhile S.isDig)) := Lib.hid (by rw [hc]; rfl)
        have ht2 : (t.dropWhile S.isDig).length ≤ s.length := by rw [← S.drop_tw, List.length_drop]; omega
        have hxd := cut_back (c0 :: t) (1 + (t.takeWhile S.isDig).length) (by have := S.tw_le S.isDig t; simp; omega)
        have hdr : (c0 :: t).drop (1 + (t.takeWhile S.isDig).length) = t.dropWhile S.isDig := by rw [Nat.add_comm, List.drop_succ_cons, S.drop_tw]
        rw [hdr] at hxd
        clear hdr hc
        have hFl := S.tw_le S.isDig t
        generalize t.takeWhile S.isDig = F at *
        generalize t.dropWhile S.isDig = T2 at *
        have hfs : S.fsum 100 F ≤ 999 := by
         by_cases h : F = []
         ·rw [h]; exact Nat.zero_le _
         ·rw [S.fsum_eq h]
          have hp := S.natOf_lt (S.bounds_pad F hF)
          rw [S.pad_len h] at hp
          omega
        have HFs : Hid (F ≠ [] → S.fsum 100 F = S.natOf ((F ++ [48, 48]).take 3)) := Lib.hid (fun h => S.fsum_eq h)
        obtain ⟨TT, hTT⟩ : ∃ TT, TT = m * 1000 + S.fsum 100 F := ⟨_, rfl⟩
        have hTb : TT ≤ 10000000000 := by omega
        have HTT := Lib.hid hTT
        have HT0 : Hid (m * 1000 + S.fsum 100 (F.drop 0) = TT) := Lib.hid (by rw [List.drop_zero]; exact hTT.symm)
        have HF := Lib.hid hF
        have HtT := Lib.hid htT
        have HTd := Lib.hid hTd
        have HXd := Lib.hid hxd
        have HN0 := Lib.hid HN.out
        clear hTT hfs hF htT hTd hxd hxk w1 hku hk0 zR HB2c HX2 HN
        go_wp2_with fail
        go_loopw [6, 7, 8] (fun v6 v7 v8 wr => ∃ j nj un : Nat, v6 = .int .i64 nj ∧ v7 = .int .i64 ((1 + j : Nat) : Int) ∧ v8 = .int .i64 un ∧ j ≤ F.length ∧ un ≤ 100 ∧ Hid (nj + S.fsum un (F.drop j) = TT) ∧ Hid (w = wr)) (fun _ v7 _ _ => F.length + 1 - (intOf v7).toNat)
        case atStart => exact ⟨0, m * 1000, 100, congrArg (Value.int IntKind.i64) (by push_cast; rfl), rfl, rfl, Nat.zero_le _, Nat.le_refl _, HT0, Lib.hid (by first | rfl | trivial)⟩
        case round =>
         obtain ⟨j, nj, un, rfl, rfl, rfl, hj, hun, HS, HW⟩ := hrel
         obtain rfl := HW.out
         clear HW HT0
         have hj1 : (0 : Int) ≤ ((1 + j : Nat) : Int) := by omega
         by_cases hlt : j < F.length
         ·obtain ⟨c, r, hd⟩ := drop_cons hlt
          have htd : (c0 :: t).drop (1 + j) = c :: (r ++ T2) := by rw [Nat.add_comm, List.drop_succ_cons, ← HtT.out]; exact drop_app hd
          have hul := lt_drop htd
          have hix := at_drop htd (by rw [bytes_size]; exact hul)
          have hulI : ((1 + j : Nat) : Int) < ((t.length + 1 : Nat) : Int) := by rw [List.length_cons] at hul; omega
          have hcd := HF.out c (by
           have : c ∈ F.drop j := by rw [hd]; exact List.mem_cons_self ..
           exact List.mem_of_mem_drop this)
          obtain ⟨d1, d2⟩ := (S.isDig_iff c).1 hcd
          have e1 : (48 : Int) ≤ (c.toNat : Int) := by omega
          have e2 : (c.toNat : Int) ≤ 57 := by omega
          have f1 : decide ((48 : Int) ≤ (c.toNat : Int)) = true := decide_eq_true e1
          have f2 : decide ((c.toNat : Int) ≤ 57) = true := decide_eq_true e2
          obtain ⟨dg, hdg⟩ : ∃ dg, dg = c.toNat - 48 := ⟨_, rfl⟩
          have hp : un * dg ≤ 900 := Nat.mul_le_mul hun (by omega : dg ≤ 9)
          have hpd : (un : Int) * ((c.toNat : Int) - 48) = ((un * dg : Nat) : Int) := by rw [Int.natCast_mul, hdg]; congr 1; omega
          have HS2 : Hid ((nj + un * dg) + S.fsum (un / 10) (F.drop (j + 1)) = TT) := Lib.hid (by
           have h := HS.out
           rw [hd] at h
           unfold S.fsum at h
           rw [drop_more hd, hdg]; omega)
          have hnb : nj + un * dg ≤ 10000000000 := by have := HS2.out; omega
          have w2 : IntKind.u8.wrap ((c.toNat : Int) - 48) = (c.toNat : Int) - 48 := by
           rw [show (c.toNat : Int) - 48 = ((c.toNat - 48 : Nat) : Int) by omega]
           exact IntWalk.u8_in _ (by omega)
          have w4 : IntKind.i64.wrap ((c.toNat : Int) - 48) = (c.toNat : Int) - 48 := IntWalk.i64_in _ (by omega)
          have w5 : IntKind.i64.wrap ((un : Int) * ((c.toNat : Int) - 48)) = (un : Int) * ((c.toNat : Int) - 48) := IntWalk.i64_in _ (by omega)
          have w6 : IntKind.i64.wrap ((nj : Int) + (un : Int) * ((c.toNat : Int) - 48)) = (nj : Int) + (un : Int) * ((c.toNat : Int) - 48) := IntWalk.i64_in _ (by omega)
          have HPd := Lib.hid hpd
          clear hd htd hcd hp hpd hdg HS d1 d2
          go_wp2_with fail
          go_roundw
          case rel => exact ⟨j + 1, nj + un * dg, un / 10, congrArg (Value.int IntKind.i64) (by rw [HPd.out]; push_cast; rfl), congrArg (Value.int IntKind.i64) (by push_cast; omega), congrArg (Value.int IntKind.i64) (by push_cast; rfl), by omega, by omega, HS2, Lib.hid (by first | rfl | trivial)⟩
          case measure => simp [intOf]; omega
         ·obtain rfl : j = F.length := by omega
          have htd : (c0 :: t).drop (1 + F.length) = T2 := by rw [Nat.add_comm, List.drop_succ_cons, ← HtT.out]; exact drop_end' rfl
          have hnj : nj = TT := by
           have h := HS.out
           rw [List.drop_length] at h
           unfold S.fsum at h
           omega
          have hl1 : ((1 + F.length : Nat) : Int) ≤ ((t.length + 1 : Nat) : Int) := by omega
          have HFr3 : Hid (F ≠ [] → S.frac (m * 1000) (c0 :: t) = some (nj, T2)) := Lib.hid (fun h => by
           rw [HFr.out, if_neg h, ← HFs.out h, hnj, HTT.out])
          have HNo : Hid (F = [] → S.frac (m * 1000) (c0 :: t) = none) := Lib.hid (fun h => by rw [HFr.out, if_pos h])
          have hXd := HXd.out
          have hnb : nj ≤ 10000000000 := by omega
          rw [List.length_cons] at hXd
          have hTd2 := HTd.out
          clear HFr HS HXd HFs HTT hnj HtT HTd
          have hcases : (T2 = [] ∧ ¬ ((1 + F.length : Nat) : Int) < ((t.length + 1 : Nat) : Int)) ∨ (∃ c r, T2 = c :: r ∧ ((1 + F.length : Nat) : Int) < ((t.length + 1 : Nat) : Int) ∧ (c0 :: t).drop (1 + F.length) = c :: r ∧ ¬ (48 : Int) ≤ (c.toNat : Int)) ∨ (∃ c r, T2 = c :: r ∧ ((1 + F.length : Nat) : Int) < ((t.length + 1 : Nat) : Int) ∧ (c0 :: t).drop (1 + F.length) = c :: r ∧ (48 : Int) ≤ (c.toNat : Int) ∧ ¬ (c.toNat : Int) ≤ 57) := by
           cases T2 with
           | nil =>
            refine Or.inl ⟨rfl, ?_⟩
            have := congrArg List.length htd
            rw [List.length_drop, List.length_cons] at this
            simp at this
            omega
           | cons c r =>
            have hul := lt_drop htd
            rw [List.length_cons] at hul
            rcases isDig_no1 (hTd2 c r rfl) with h | h
            ·exact Or.inr (Or.inl ⟨c, r, rfl, by omega, htd, by omega⟩)
            ·exact Or.inr (Or.inr ⟨c, r, rfl, by omega, htd, by omega, by omega⟩)
          clear htd hTd2
          by_cases hFe : F = []
          ·have HN3 : Hid (dS = none) := Lib.hid (by rw [HN0.out, HNo.out hFe])
           subst hFe
           clear HNo HFr3 hXd
           rcases hcases with ⟨hT2, e0⟩ | ⟨c, r, hT2, e0, htd, e1⟩ | ⟨c, r, hT2, e0, htd, e1, e2⟩
           ·have f0 : decide (((1 + ([] : List UInt8).length : Nat) : Int) < ((t.length + 1 : Nat) : Int)) = false := decide_eq_false e0
            simp only [List.length_nil, Nat.add_zero] at e0 f0 hl1 hj1 ⊢
            go_wp2_with fail
            go_ret3
            exact ⟨0, c0 :: t, false, rfl, Below.refl _ _, Lib.hid (fun h => by cases h), Lib.hid (fun _ => HDS.out.trans HN3.out), by simp; omega⟩
           ·have hix := fun h => at_drop htd h
            have f1 : decide ((48 : Int) ≤ (c.toNat : Int)) = false := decide_eq_false e1
            simp only [List.length_nil, Nat.add_zero] at e0 hix hl1 hj1 ⊢
            have hsz : 1 < (⟨(c0 :: t).toArray⟩ : ByteArray).size := by rw [bytes_size, List.length_cons]; omega
            have hix1 := hix hsz
            clear htd
            go_wp2_with fail
            go_ret3
            exact ⟨0, c0 :: t, false, rfl, Below.refl _ _, Lib.hid (fun h => by cases h), Lib.hid (fun _ => HDS.out.trans HN3.out), by simp; omega⟩
           ·have hix := fun h => at_drop htd h
            have f1 : decide ((48 : Int) ≤ (c.toNat : Int)) = true := decide_eq_true e1
            have f2 : decide ((c.toNat : Int) ≤ 57) = false := decide_eq_false e2
            simp only [List.length_nil, Nat.add_zero] at e0 hix hl1 hj1 ⊢
            have hsz : 1 < (⟨(c0 :: t).toArray⟩ : ByteArray).size := by rw [bytes_size, List.length_cons]; omega
            have hix1 := hix hsz
            clear htd
            go_wp2_with fail
            go_ret3
            exact ⟨0, c0 :: t, false, rfl, Below.refl _ _, Lib.hid (fun h => by cases h), Lib.hid (fun _ => HDS.out.trans HN3.out), by simp; omega⟩
          ·have hF1 : 1 ≤ F.length := List.length_pos_iff.2 hFe
           have g1 : (((1 + F.length : Nat) : Int) == 1) = false := by rw [beq_eq_false_iff_ne]; omega
           have g2 : ¬ ((1 + F.length : Nat) : Int) = 1 := by omega
           have g3 : ¬ (1 : Int) + (F.length : Int) = 1 := by omega
           have g4 : ((1 : Int) + (F.length : Int) == 1) = false := by rw [beq_eq_false_iff_ne]; omega
           have g5 : ¬ F.length = 0 := by omega
           have HFr4 := Lib.hid (HFr3.out hFe)
           clear HNo HFr3 hFe
           rcases hcases with ⟨hT2, e0⟩ | ⟨c, r, hT2, e0, htd, e1⟩ | ⟨c, r, hT2, e0, htd, e1, e2⟩
           ·have f0 : decide (((1 + F.length : Nat) : Int) < ((t.length + 1 : Nat) : Int)) = false := decide_eq_false e0
            have HT2 := Lib.hid hT2
            clear hT2
            go_wp2_with fail
            go_meet
            exact ⟨nj, T2, (by first | rfl | exact congrArg Value.string hXd), rfl, HFr4, hnb, ht2, Lib.hid (by first | rfl | trivial)⟩
           ·have hix := fun h => at_drop htd h
            have f1 : decide ((48 : Int) ≤ (c.toNat : Int)) = false := decide_eq_false e1
            have HT2 := Lib.hid hT2
            clear htd hT2
            go_wp2_with fail
            go_meet
            exact ⟨nj, T2, (by first | rfl | exact congrArg Value.string hXd), rfl, HFr4, hnb, ht2, Lib.hid (by first | rfl | trivial)⟩
           ·have hix := fun h => at_drop htd h
            have f1 : decide ((48 : Int) ≤ (c.toNat : Int)) = true := decide_eq_true e1
            have f2 : decide ((c.toNat : Int) ≤ 57) = false := decide_eq_false e2
            have HT2 := Lib.hid hT2
            clear htd hT2
            go_wp2_with fail
            go_meet
            exact ⟨nj, T2, (by first | rfl | exact congrArg Value.string hXd), rfl, HFr4, hnb, ht2, Lib.hid (by first | rfl | trivial)⟩
      case rest =>
       obtain ⟨n1, R1, rfl, rfl, HFr, hn1, hR1, HW⟩ := hcut
       obtain rfl := HW.out
       have HN2 : Hid (dS = if n1 ≤ 1048576000 then some (sg * n1, R1) else none) := Lib.hid (by rw [HN.out, HFr.out])
       clear HN HFr HB2c HW HX2 hxk w1 hku hk0
       rcases HSg.out with rfl | rfl
       all_goals
        by_cases hle : n1 ≤ 1048576000
        ·have e5 : (n1 : Int) ≤ 1048576000 := by omega
         have f5 : decide ((n1 : Int) ≤ 1048576000) = true := decide_eq_true e5
         have HN3 := Lib.hid (HDS.out.trans (HN2.out.trans (if_pos hle)))
         clear HN2 HDS
         go_wp2_with fail
         go_ret3
         exact ⟨_, R1, true, rfl, Below.refl _ _, Lib.hid (fun _ => ⟨HN3.out.trans (by simp), by omega, by omega⟩), Lib.hid (fun h => by cases h), hR1⟩
        ·have e5 : ¬ (n1 : Int) ≤ 1048576000 := by omega
         have f5 : decide ((n1 : Int) ≤ 1048576000) = false := decide_eq_false e5
         have HN3 := Lib.hid (HDS.out.trans (HN2.out.trans (if_neg hle)))
         clear HN2 HDS
         go_wp2_with fail
         go_ret3
         exact ⟨_, R1, false, rfl, Below.refl _ _, Lib.hid (fun h => by cases h), Lib.hid (fun _ => HN3.out), hR1⟩
end V
end Go.Proofs.YtafkeolpadfjfaaGreatDoor
namespace Go.Proofs.YtafkeolpadfjfaaGreatDoor
open Go.RowKit
namespace V
open H Y
def rcells (v : S.Val) (g : Bool) : Array Value := #[.int .i64 (v.kind : Nat), .int .i64 v.num, .string ⟨v.word.toArray⟩, .bool g]
def rval (v : S.Val) (g : Bool) : Value := .agg (rcells v g)
/-- A value as the reference has it: with a mark that it is valid. -/
def RvPost (o : Option S.Val) (w : World) (e : Ending) (w' : World) : Prop :=
 ∃ (v : S.Val) (ok : Bool), e = .returned (rval v ok) ∧ Below w.heap.size w w' ∧ Hid (ok = true → o = some v) ∧ Hid (ok = false → o = none)
theorem blk4 {g : Nat} {T : TypeId} {w : World} {a b c d : Value} (h : Blk g #[a, b, c, d] T w) (v0 v1 v2 v3 : Value) :
  Blk g #[v0, v1, v2, v3] T ((((w.setCell ⟨g, 0, none⟩ v0).setCell ⟨g, 1, none⟩ v1).setCell ⟨g, 2, none⟩ v2).setCell ⟨g, 3, none⟩ v3) := (((H.Blk.set h 0 v0).set 1 v1).set 2 v2).set 3 v3
theorem below_four {B g : Nat} {w0 w : World} (h : Below B w0 w) (hg : B ≤ g) (v0 v1 v2 v3 : Value) :
  Below B w0 ((((w.setCell ⟨g, 0, none⟩ v0).setCell ⟨g, 1, none⟩ v1).setCell ⟨g, 2, none⟩ v2).setCell ⟨g, 3, none⟩ v3) := (((h.setCell hg v0).setCell hg v1).setCell hg v2).setCell hg v3
def rs (pc po : Bool) (n : Int) (r : List UInt8) : Option S.Val :=
 if po && decide (n < 0) then none
 else if r = [112, 120] ∨ (r = [] ∧ n = 0) then some ⟨3, n, []⟩
 else if r = [101, 109] then some ⟨4, n, []⟩
 else if r = [37] ∧ pc = true then some ⟨5, n, []⟩
 else none
def rc (po wh : Bool) (n : Int) (r : List UInt8) : Option S.Val :=
 if r ≠ [] then none
 else if po && decide (n < 0) then none
 else if wh && decide (n % 1000 ≠ 0) then none
 else some ⟨2, n, []⟩
set_option maxHeartbeats 16000000 in
set_option maxRecDepth 100000 in
theorem size (s : List UInt8) (pc po : Bool) (w : World) (hs : s.length ≤ 100000) :
  Calls Tryz.prog 45 #[.string ⟨s.toArray⟩, .bool pc, .bool po] w (RvPost (S.rsize s pc po) w) := by
 have QD := Lib.hid (fun W => number s W hs)
 have HM : Hid (S.rsize s pc po = match S.decimal s with | none => none | some (n, r) => rs pc po n r) := Lib.hid rfl
 generalize S.rsize s pc po = o at *
 go_enter Tryz.func45, Tryz.ntmps45
 go_upto_region 1 with fail
 have HX0 : Hid (Blk w.heap.size #[.int .i64 0, .int .i64 0, .string ⟨#[]⟩, .bool false] 44 (w.alloc (.cells #[.int .i64 0, .int .i64 0, .string ⟨#[]⟩, .bool false] 44))) := Lib.hid (Blk.new w _ _)
 have HU0 : Hid (Below w.heap.size w (w.alloc (.cells #[.int .i64 0, .int .i64 0, .string ⟨#[]⟩, .bool false] 44))) := Lib.hid ((Below.refl _ w).alloc (Nat.le_refl _) _)
 generalize (w.alloc (.cells #[.int .i64 0, .int .i64 0, .string ⟨#[]⟩, .bool false] 44)) = W0 at *
 go_wp2_with fail
 refine (QD.out _).mono ?_
 rintro e w1 ⟨n, r, ok, rfl, hb, hok, hno, hrl⟩
 have HX := Lib.hid (HX0.out.below hb)
 have HU := Lib.hid (HU0.out.trans (hb.mono HU0.out.size))
 clear hb HX0 HU0 QD hrl
 obtain ⟨hcx, hfx⟩ := cells_of HX.out
 have x0 : w1.cell? ⟨w.heap.size, 0, none⟩ = some (.int .i64 0) := hcx 0
 have x1 : w1.cell? ⟨w.heap.size, 1, none⟩ = some (.int .i64 0) := hcx 1
 have x2 : w1.cell? ⟨w.heap.size, 2, none⟩ = some (.string ⟨#[]⟩) := hcx 2
 have x3 : w1.cell? ⟨w.heap.size, 3, none⟩ = some (.bool false) := hcx 3
 have f0 : w1.frozen? ⟨w.heap.size, 0, none⟩ = false := hfx 0 (by show 0 < 4; omega)
 have f1 : w1.frozen? ⟨w.heap.size, 1, none⟩ = false := hfx 1 (by show 1 < 4; omega)
 have f2 : w1.frozen? ⟨w.heap.size, 2, none⟩ = false := hfx 2 (by show 2 < 4; omega)
 have f3 : w1.frozen? ⟨w.heap.size, 3, none⟩ = false := hfx 3 (by show 3 < 4; omega)
 clear hcx hfx
 cases ok with
 | false =>
  have HN := HM
  have hno2 := hno.out rfl
  have HO : Hid (o = none) := Lib.hid (HM.out.trans (by rw [hno2]))
  clear HN
  go_wp2_with fail
  have HXR := Lib.hid (blk4 HX.out (.int .i64 0) (.int .i64 0) (.string ⟨#[]⟩) (.bool false))
  have HUR := Lib.hid (below_four HU.out (Nat.le_refl _) (.int .i64 0) (.int .i64 0) (.string ⟨#[]⟩) (.bool false))
  generalize ((((w1.setCell ⟨w.heap.size, 0, none⟩ (.int .i64 0)).setCell ⟨w.heap.size, 1, none⟩ (.int .i64 0)).setCell ⟨w.heap.size, 2, none⟩ (.string ⟨#[]⟩)).setCell ⟨w.heap.size, 3, none⟩ (.bool false)) = WR at *
  obtain ⟨hcr, hfr⟩ := cells_of HXR.out
  have r0 : WR.cell? ⟨w.heap.size, 0, none⟩ = some (.int .i64 0) := hcr 0
  have r1 : WR.cell? ⟨w.heap.size, 1, none⟩ = some (.int .i64 0) := hcr 1
  have r2 : WR.cell? ⟨w.heap.size, 2, none⟩ = some (.string ⟨#[]⟩) := hcr 2
  have r3 : WR.cell? ⟨w.heap.size, 3, none⟩ = some (.bool false) := hcr 3
  clear hcr hfr
  (try simp only [Exit.inBlock, Exit.then])
  refine bodyPost_ret (v := rval ⟨0, 0, []⟩ false) (by simp [results, Tryz.results45, go_sem, r0, r1, r2, r3, rval, rcells]) rfl ⟨⟨0, 0, []⟩, _, rfl, HUR.out, Lib.hid (fun h => by cases h), Lib.hid (fun _ => HO.out)⟩
 | true =>
  have HN : Hid (o = rs pc po n r) := Lib.hid (HM.out.trans (by rw [(hok.out rfl).1]))
  clear hok hno HM
  by_cases hneg : (po && decide (n < 0)) = true
  ·have HO : Hid (o = none) := Lib.hid (HN.out.trans (by unfold rs; rw [if_pos hneg]))
   rw [Bool.and_eq_true, decide_eq_true_iff] at hneg
   obtain ⟨rfl, hn0⟩ := hneg
   have e0 : decide (n < 0) = true := decide_eq_true hn0
   clear HN
   go_wp2_with fail
   have HXR := Lib.hid (blk4 HX.out (.int .i64 0) (.int .i64 0) (.string ⟨#[]⟩) (.bool false))
   have HUR := Lib.hid (below_four HU.out (Nat.le_refl _) (.int .i64 0) (.int .i64 0) (.string ⟨#[]⟩) (.bool false))
   generalize ((((w1.setCell ⟨w.heap.size, 0, none⟩ (.int .i64 0)).setCell ⟨w.heap.size, 1, none⟩ (.int .i64 0)).setCell ⟨w.heap.size, 2, none⟩ (.string ⟨#[]⟩)).setCell ⟨w.heap.size, 3, none⟩ (.bool false)) = WR at *
   obtain ⟨hcr, hfr⟩ := cells_of HXR.out
   have r0 : WR.cell? ⟨w.heap.size, 0, none⟩ = some (.int .i64 0) := hcr 0
   have r1 : WR.cell? ⟨w.heap.size, 1, none⟩ = some (.int .i64 0) := hcr 1
   have r2 : WR.cell? ⟨w.heap.size, 2, none⟩ = some (.string ⟨#[]⟩) := hcr 2
   have r3 : WR.cell? ⟨w.heap.size, 3, none⟩ = some (.bool false) := hcr 3
   clear hcr hfr
   (try simp only [Exit.inBlock, Exit.then])
   refine bodyPost_ret (v := rval ⟨0, 0, []⟩ false) (by simp [results, Tryz.results45, go_sem, r0, r1, r2, r3, rval, rcells]) rfl ⟨⟨0, 0, []⟩, _, rfl, HUR.out, Lib.hid (fun h => by cases h), Lib.hid (fun _ => HO.out)⟩
  ·have HN2 : Hid (o = if r = [112, 120] ∨ (r = [] ∧ n = 0) then some ⟨3, n, []⟩ else if r = [101, 109] then some ⟨4, n, []⟩ else if r = [37] ∧ pc = true then some ⟨5, n, []⟩ else none) := Lib.hid (HN.out.trans (by unfold rs; rw [if_neg hneg]))
   clear HN
   have HN := HN2
   clear HN2
   rcases (by cases hq : decide (n < 0) <;> cases hb : po <;> simp_all : (po = false) ∨ (po = true ∧ decide (n < 0) = false)) with rfl | ⟨rfl, e0⟩
   all_goals
    clear hneg
    by_cases hr0 : r = []
    ·subst hr0
     by_cases hz : n = 0
     ·subst hz
      have HO : Hid (o = some ⟨3, 0, []⟩) := Lib.hid (HN.out.trans (by simp))
      clear HN
      go_wp2_with fail
      have HXR := Lib.hid (blk4 HX.out (.int .i64 3) (.int .i64 0) (.string ⟨#[]⟩) (.bool true))
      have HUR := Lib.hid (below_four HU.out (Nat.le_refl _) (.int .i64 3) (.int .i64 0) (.string ⟨#[]⟩) (.bool true))
      generalize ((((w1.setCell ⟨w.heap.size, 0, none⟩ (.int .i64 3)).setCell ⟨w.heap.size, 1, none⟩ (.int .i64 0)).setCell ⟨w.heap.size, 2, none⟩ (.string ⟨#[]⟩)).setCell ⟨w.heap.size, 3, none⟩ (.bool true)) = WR at *
      obtain ⟨hcr, hfr⟩ := cells_of HXR.out
      have r0 : WR.cell? ⟨w.heap.size, 0, none⟩ = some (.int .i64 3) := hcr 0
      have r1 : WR.cell? ⟨w.heap.size, 1, none⟩ = some (.int .i64 0) := hcr 1
      have r2 : WR.cell? ⟨w.heap.size, 2, none⟩ = some (.string ⟨#[]⟩) := hcr 2
      have r3 : WR.cell? ⟨w.heap.size, 3, none⟩ = some (.bool true) := hcr 3
      clear hcr hfr
      (try simp only [Exit.inBlock, Exit.then])
      refine bodyPost_ret (v := rval ⟨3, 0, []⟩ true) (by simp [results, Tryz.results45, go_sem, r0, r1, r2, r3, rval, rcells]) rfl ⟨⟨3, 0, []⟩, _, rfl, HUR.out, Lib.hid (fun _ => HO.out), Lib.hid (fun h => by cases h)⟩
     ·have e1 : (n == 0) = false := by simpa using hz
      have HO : Hid (o = none) := Lib.hid (HN.out.trans (by simp [hz]))
      clear HN
      go_wp2_with fail
      have HXR := Lib.hid (blk4 HX.out (.int .i64 0) (.int .i64 0) (.string ⟨#[]⟩) (.bool false))
      have HUR := Lib.hid (below_four HU.out (Nat.le_refl _) (.int .i64 0) (.int .i64 0) (.string ⟨#[]⟩) (.bool false))
      generalize ((((w1.setCell ⟨w.heap.size, 0, none⟩ (.int .i64 0)).setCell ⟨w.heap.size, 1, none⟩ (.int .i64 0)).setCell ⟨w.heap.size, 2, none⟩ (.string ⟨#[]⟩)).setCell ⟨w.heap.size, 3, none⟩ (.bool false)) = WR at *
      obtain ⟨hcr, hfr⟩ := cells_of HXR.out
      have r0 : WR.cell? ⟨w.heap.size, 0, none⟩ = some (.int .i64 0) := hcr 0
      have r1 : WR.cell? ⟨w.heap.size, 1, none⟩ = some (.int .i64 0) := hcr 1
      have r2 : WR.cell? ⟨w.heap.size, 2, none⟩ = some (.string ⟨#[]⟩) := hcr 2
      have r3 : WR.cell? ⟨w.heap.size, 3, none⟩ = some (.bool false) := hcr 3
      clear hcr hfr
      (try simp only [Exit.inBlock, Exit.then])
      refine bodyPost_ret (v := rval ⟨0, 0, []⟩ false) (by simp [results, Tryz.results45, go_sem, r0, r1, r2, r3, rval, rcells]) rfl ⟨⟨0, 0, []⟩, _, rfl, HUR.out, Lib.hid (fun h => by cases h), Lib.hid (fun _ => HO.out)⟩
    ·have g0 : (r == []) = false := by simpa using hr0
     by_cases hrpx : r = [112, 120]
     ·subst hrpx
      have HO : Hid (o = some ⟨3, n, []⟩) := Lib.hid (HN.out.trans (by simp))
      clear HN
      go_wp2_with fail
      have HXR := Lib.hid (blk4 HX.out (.int .i64 3) (.int .i64 n) (.string ⟨#[]⟩) (.bool true))
      have HUR := Lib.hid (below_four HU.out (Nat.le_refl _) (.int .i64 3) (.int .i64 n) (.string ⟨#[]⟩) (.bool true))
      generalize ((((w1.setCell ⟨w.heap.size, 0, none⟩ (.int .i64 3)).setCell ⟨w.heap.size, 1, none⟩ (.int .i64 n)).setCell ⟨w.heap.size, 2, none⟩ (.string ⟨#[]⟩)).setCell ⟨w.heap.size, 3, none⟩ (.bool true)) = WR at *
      obtain ⟨hcr, hfr⟩ := cells_of HXR.out
      have r0 : WR.cell? ⟨w.heap.size, 0, none⟩ = some (.int .i64 3) := hcr 0
      have r1 : WR.cell? ⟨w.heap.size, 1, none⟩ = some (.int .i64 n) := hcr 1
      have r2 : WR.cell? ⟨w.heap.size, 2, none⟩ = some (.string ⟨#[]⟩) := hcr 2
      have r3 : WR.cell? ⟨w.heap.size, 3, none⟩ = some (.bool true) := hcr 3
      clear hcr hfr
      (try simp only [Exit.inBlock, Exit.then])
      refine bodyPost_ret (v := rval ⟨3, n, []⟩ true) (by simp [results, Tryz.results45, go_sem, r0, r1, r2, r3, rval, rcells]) rfl ⟨⟨3, n, []⟩, _, rfl, HUR.out, Lib.hid (fun _ => HO.out), Lib.hid (fun h => by cases h)⟩
     have gpx : (r == [112, 120]) = false := by simpa using hrpx
     by_cases hrem : r = [101, 109]
     ·subst hrem
      have HO : Hid (o = some ⟨4, n, []⟩) := Lib.hid (HN.out.trans (by simp))
      clear HN
      go_wp2_with fail
      have HXR := Lib.hid (blk4 HX.out (.int .i64 4) (.int .i64 n) (.string ⟨#[]⟩) (.bool true))
      have HUR := Lib.hid (below_four HU.out (Nat.le_refl _) (.int .i64 4) (.int .i64 n) (.string ⟨#[]⟩) (.bool true))
      generalize ((((w1.setCell ⟨w.heap.size, 0, none⟩ (.int .i64 4)).setCell ⟨w.heap.size, 1, none⟩ (.int .i64 n)).setCell ⟨w.heap.size, 2, none⟩ (.string ⟨#[]⟩)).setCell ⟨w.heap.size, 3, none⟩ (.bool true)) = WR at *
      obtain ⟨hcr, hfr⟩ := cells_of HXR.out
      have r0 : WR.cell? ⟨w.heap.size, 0, none⟩ = some (.int .i64 4) := hcr 0
      have r1 : WR.cell? ⟨w.heap.size, 1, none⟩ = some (.int .i64 n) := hcr 1
      have r2 : WR.cell? ⟨w.heap.size, 2, none⟩ = some (.string ⟨#[]⟩) := hcr 2
      have r3 : WR.cell? ⟨w.heap.size, 3, none⟩ = some (.bool true) := hcr 3
      clear hcr hfr
      (try simp only [Exit.inBlock, Exit.then])
      refine bodyPost_ret (v := rval ⟨4, n, []⟩ true) (by simp [results, Tryz.results45, go_sem, r0, r1, r2, r3, rval, rcells]) rfl ⟨⟨4, n, []⟩, _, rfl, HUR.out, Lib.hid (fun _ => HO.out), Lib.hid (fun h => by cases h)⟩
     have gem : (r == [101, 109]) = false := by simpa using hrem
     by_cases hrpc : r = [37]
     ·subst hrpc
      cases pc with
      | true =>
       have HO : Hid (o = some ⟨5, n, []⟩) := Lib.hid (HN.out.trans (by simp))
       clear HN
       go_wp2_with fail
       have HXR := Lib.hid (blk4 HX.out (.int .i64 5) (.int .i64 n) (.string ⟨#[]⟩) (.bool true))
       have HUR := Lib.hid (below_four HU.out (Nat.le_refl _) (.int .i64 5) (.int .i64 n) (.string ⟨#[]⟩) (.bool true))
       generalize ((((w1.setCell ⟨w.heap.size, 0, none⟩ (.int .i64 5)).setCell ⟨w.heap.size, 1, none⟩ (.int .i64 n)).setCell ⟨w.heap.size, 2, none⟩ (.string ⟨#[]⟩)).setCell ⟨w.heap.size, 3, none⟩ (.bool true)) = WR at *
       obtain ⟨hcr, hfr⟩ := cells_of HXR.out
       have r0 : WR.cell? ⟨w.heap.size, 0, none⟩ = some (.int .i64 5) := hcr 0
       have r1 : WR.cell? ⟨w.heap.size, 1, none⟩ = some (.int .i64 n) := hcr 1
       have r2 : WR.cell? ⟨w.heap.size, 2, none⟩ = some (.string ⟨#[]⟩) := hcr 2
       have r3 : WR.cell? ⟨w.heap.size, 3, none⟩ = some (.bool true) := hcr 3
       clear hcr hfr
       (try simp only [Exit.inBlock, Exit.then])
       refine bodyPost_ret (v := rval ⟨5, n, []⟩ true) (by simp [results, Tryz.results45, go_sem, r0, r1, r2, r3, rval, rcells]) rfl ⟨⟨5, n, []⟩, _, rfl, HUR.out, Lib.hid (fun _ => HO.out), Lib.hid (fun h => by cases h)⟩
      | false =>
       have HO : Hid (o = none) := Lib.hid (HN.out.trans (by simp))
       clear HN
       go_wp2_with fail
       have HXR := Lib.hid (blk4 HX.out (.int .i64 0) (.int .i64 0) (.string ⟨#[]⟩) (.bool false))
       have HUR := Lib.hid (below_four HU.out (Nat.le_refl _) (.int .i64 0) (.int .i64 0) (.string ⟨#[]⟩) (.bool false))
       generalize ((((w1.setCell ⟨w.heap.size, 0, none⟩ (.int .i64 0)).setCell ⟨w.heap.size, 1, none⟩ (.int .i64 0)).setCell ⟨w.heap.size, 2, none⟩ (.string ⟨#[]⟩)).setCell ⟨w.heap.size, 3, none⟩ (.bool false)) = WR at *
       obtain ⟨hcr, hfr⟩ := cells_of HXR.out
       have r0 : WR.cell? ⟨w.heap.size, 0, none⟩ = some (.int .i64 0) := hcr 0
       have r1 : WR.cell? ⟨w.heap.size, 1, none⟩ = some (.int .i64 0) := hcr 1
       have r2 : WR.cell? ⟨w.heap.size, 2, none⟩ = some (.string ⟨#[]⟩) := hcr 2
       have r3 : WR.cell? ⟨w.heap.size, 3, none⟩ = some (.bool false) := hcr 3
       clear hcr hfr
       (try simp only [Exit.inBlock, Exit.then])
       refine bodyPost_ret (v := rval ⟨0, 0, []⟩ false) (by simp [results, Tryz.results45, go_sem, r0, r1, r2, r3, rval, rcells]) rfl ⟨⟨0, 0, []⟩, _, rfl, HUR.out, Lib.hid (fun h => by cases h), Lib.hid (fun _ => HO.out)⟩
     have gpc : (r == [37]) = false := by simpa using hrpc
     have HO : Hid (o = none) := Lib.hid (HN.out.trans (by simp [hr0, hrpx, hrem, hrpc]))
     clear HN
     go_wp2_with fail
     have HXR := Lib.hid (blk4 HX.out (.int .i64 0) (.int .i64 0) (.string ⟨#[]⟩) (.bool false))
     have HUR := Lib.hid (below_four HU.out (Nat.le_refl _) (.int .i64 0) (.int .i64 0) (.string ⟨#[]⟩) (.bool false))
     generalize ((((w1.setCell ⟨w.heap.size, 0, none⟩ (.int .i64 0)).setCell ⟨w.heap.size, 1, none⟩ (.int .i64 0)).setCell ⟨w.heap.size, 2, none⟩ (.string ⟨#[]⟩)).setCell ⟨w.heap.size, 3, none⟩ (.bool false)) = WR at *
     obtain ⟨hcr, hfr⟩ := cells_of HXR.out
     have r0 : WR.cell? ⟨w.heap.size, 0, none⟩ = some (.int .i64 0) := hcr 0
     have r1 : WR.cell? ⟨w.heap.size, 1, none⟩ = some (.int .i64 0) := hcr 1
     have r2 : WR.cell? ⟨w.heap.size, 2, none⟩ = some (.string ⟨#[]⟩) := hcr 2
     have r3 : WR.cell? ⟨w.heap.size, 3, none⟩ = some (.bool false) := hcr 3
     clear hcr hfr
     (try simp only [Exit.inBlock, Exit.then])
     refine bodyPost_ret (v := rval ⟨0, 0, []⟩ false) (by simp [results, Tryz.results45, go_sem, r0, r1, r2, r3, rval, rcells]) rfl ⟨⟨0, 0, []⟩, _, rfl, HUR.out, Lib.hid (fun h => by cases h), Lib.hid (fun _ => HO.out)⟩
set_option maxHeartbeats 16000000 in
set_option maxRecDepth 100000 in
theorem count (s : List UInt8) (po wh : Bool) (w : World) (hs : s.length ≤ 100000) :
  Calls Tryz.prog 46 #[.string ⟨s.toArray⟩, .bool po, .bool wh] w (RvPost (S.rcount s po wh) w) := by
 have QD := Lib.hid (fun W => number s W hs)
 have HM : Hid (S.rcount s po wh = match S.decimal s with | none => none | some (n, r) => rc po wh n r) := Lib.hid rfl
 generalize S.rcount s po wh = o at *
 go_enter Tryz.func46, Tryz.ntmps46
 go_upto_region 1 with fail
 have HX0 : Hid (Blk w.heap.size #[.int .i64 0, .int .i64 0, .string ⟨#[]⟩, .bool false] 44 (w.alloc (.cells #[.int .i64 0, .int .i64 0, .string ⟨#[]⟩, .bool false] 44))) := Lib.hid (Blk.new w _ _)
 have HU0 : Hid (Below w.heap.size w (w.alloc (.cells #[.int .i64 0, .int .i64 0, .string ⟨#[]⟩, .bool false] 44))) := Lib.hid ((Below.refl _ w).alloc (Nat.le_refl _) _)
 generalize (w.alloc (.cells #[.int .i64 0, .int .i64 0, .string ⟨#[]⟩, .bool false] 44)) = W0 at *
 go_wp2_with fail
 refine (QD.out _).mono ?_
 rintro e w1 ⟨n, r, ok, rfl, hb, hok, hno, hrl⟩
 have HX := Lib.hid (HX0.out.below hb)
 have HU := Lib.hid (HU0.out.trans (hb.mono HU0.out.size))
 clear hb HX0 HU0 QD hrl
 obtain ⟨hcx, hfx⟩ := cells_of HX.out
 have x0 : w1.cell? ⟨w.heap.size, 0, none⟩ = some (.int .i64 0) := hcx 0
 have x1 : w1.cell? ⟨w.heap.size, 1, none⟩ = some (.int .i64 0) := hcx 1
 have x2 : w1.cell? ⟨w.heap.size, 2, none⟩ = some (.string ⟨#[]⟩) := hcx 2
 have x3 : w1.cell? ⟨w.heap.size, 3, none⟩ = some (.bool false) := hcx 3
 have f0 : w1.frozen? ⟨w.heap.size, 0, none⟩ = false := hfx 0 (by show 0 < 4; omega)
 have f1 : w1.frozen? ⟨w.heap.size, 1, none⟩ = false := hfx 1 (by show 1 < 4; omega)
 have f2 : w1.frozen? ⟨w.heap.size, 2, none⟩ = false := hfx 2 (by show 2 < 4; omega)
 have f3 : w1.frozen? ⟨w.heap.size, 3, none⟩ = false := hfx 3 (by show 3 < 4; omega)
 clear hcx hfx
 cases ok with
 | false =>
  have HN := HM
  have hno2 := hno.out rfl
  have HO : Hid (o = none) := Lib.hid (HM.out.trans (by rw [hno2]))
  clear HN
  go_wp2_with fail
  have HXR := Lib.hid (blk4 HX.out (.int .i64 0) (.int .i64 0) (.string ⟨#[]⟩) (.bool false))
  have HUR := Lib.hid (below_four HU.out (Nat.le_refl _) (.int .i64 0) (.int .i64 0) (.string ⟨#[]⟩) (.bool false))
  generalize ((((w1.setCell ⟨w.heap.size, 0, none⟩ (.int .i64 0)).setCell ⟨w.heap.size, 1, none⟩ (.int .i64 0)).setCell ⟨w.heap.size, 2, none⟩ (.string ⟨#[]⟩)).setCell ⟨w.heap.size, 3, none⟩ (.bool false)) = WR at *
  obtain ⟨hcr, hfr⟩ := cells_of HXR.out
  have r0 : WR.cell? ⟨w.heap.size, 0, none⟩ = some (.int .i64 0) := hcr 0
  have r1 : WR.cell? ⟨w.heap.size, 1, none⟩ = some (.int .i64 0) := hcr 1
  have r2 : WR.cell? ⟨w.heap.size, 2, none⟩ = some (.string ⟨#[]⟩) := hcr 2
  have r3 : WR.cell? ⟨w.heap.size, 3, none⟩ = some (.bool false) := hcr 3
  clear hcr hfr
  (try simp only [Exit.inBlock, Exit.then])
  refine bodyPost_ret (v := rval ⟨0, 0, []⟩ false) (by simp [results, Tryz.results46, go_sem, r0, r1, r2, r3, rval, rcells]) rfl ⟨⟨0, 0, []⟩, _, rfl, HUR.out, Lib.hid (fun h => by cases h), Lib.hid (fun _ => HO.out)⟩
 | true =>
  have HN : Hid (o = rc po wh n r) := Lib.hid (HM.out.trans (by rw [(hok.out rfl).1]))
  clear hok hno HM
  by_cases hr0 : r = []
  ·subst hr0
   have ht := tmod_mod n
   by_cases hneg : (po && decide (n < 0)) = true
   ·have HO : Hid (o = none) := Lib.hid (HN.out.trans (by unfold rc; rw [if_neg (by simp), if_pos hneg]))
    rw [Bool.and_eq_true, decide_eq_true_iff] at hneg
    obtain ⟨rfl, hn0⟩ := hneg
    have e0 : decide (n < 0) = true := decide_eq_true hn0
    clear HN ht
    go_wp2_with fail
    have HXR := Lib.hid (blk4 HX.out (.int .i64 0) (.int .i64 0) (.string ⟨#[]⟩) (.bool false))
    have HUR := Lib.hid (below_four HU.out (Nat.le_refl _) (.int .i64 0) (.int .i64 0) (.string ⟨#[]⟩) (.bool false))
    generalize ((((w1.setCell ⟨w.heap.size, 0, none⟩ (.int .i64 0)).setCell ⟨w.heap.size, 1, none⟩ (.int .i64 0)).setCell ⟨w.heap.size, 2, none⟩ (.string ⟨#[]⟩)).setCell ⟨w.heap.size, 3, none⟩ (.bool false)) = WR at *
    obtain ⟨hcr, hfr⟩ := cells_of HXR.out
    have r0 : WR.cell? ⟨w.heap.size, 0, none⟩ = some (.int .i64 0) := hcr 0
    have r1 : WR.cell? ⟨w.heap.size, 1, none⟩ = some (.int .i64 0) := hcr 1
    have r2 : WR.cell? ⟨w.heap.size, 2, none⟩ = some (.string ⟨#[]⟩) := hcr 2
    have r3 : WR.cell? ⟨w.heap.size, 3, none⟩ = some (.bool false) := hcr 3
    clear hcr hfr
    (try simp only [Exit.inBlock, Exit.then])
    refine bodyPost_ret (v := rval ⟨0, 0, []⟩ false) (by simp [results, Tryz.results46, go_sem, r0, r1, r2, r3, rval, rcells]) rfl ⟨⟨0, 0, []⟩, _, rfl, HUR.out, Lib.hid (fun h => by cases h), Lib.hid (fun _ => HO.out)⟩
   ·have HN2 : Hid (o = if (wh && decide (n % 1000 ≠ 0)) = true then none else some ⟨2, n, []⟩) := Lib.hid (HN.out.trans (by unfold rc; rw [if_neg (by simp), if_neg hneg]))
    clear HN
    have HN := HN2
    clear HN2
    rcases (by cases hq : decide (n < 0) <;> cases hb : po <;> simp_all : (po = false) ∨ (po = true ∧ decide (n < 0) = false)) with rfl | ⟨rfl, e0⟩
    all_goals
     clear hneg
     cases wh with
     | false =>
      have HO : Hid (o = some ⟨2, n, []⟩) := Lib.hid (HN.out.trans (by simp))
      clear HN
      go_wp2_with fail
      have HXR := Lib.hid (blk4 HX.out (.int .i64 2) (.int .i64 n) (.string ⟨#[]⟩) (.bool true))
      have HUR := Lib.hid (below_four HU.out (Nat.le_refl _) (.int .i64 2) (.int .i64 n) (.string ⟨#[]⟩) (.bool true))
      generalize ((((w1.setCell ⟨w.heap.size, 0, none⟩ (.int .i64 2)).setCell ⟨w.heap.size, 1, none⟩ (.int .i64 n)).setCell ⟨w.heap.size, 2, none⟩ (.string ⟨#[]⟩)).setCell ⟨w.heap.size, 3, none⟩ (.bool true)) = WR at *
      obtain ⟨hcr, hfr⟩ := cells_of HXR.out
      have r0 : WR.cell? ⟨w.heap.size, 0, none⟩ = some (.int .i64 2) := hcr 0
      have r1 : WR.cell? ⟨w.heap.size, 1, none⟩ = some (.int .i64 n) := hcr 1
      have r2 : WR.cell? ⟨w.heap.size, 2, none⟩ = some (.string ⟨#[]⟩) := hcr 2
      have r3 : WR.cell? ⟨w.heap.size, 3, none⟩ = some (.bool true) := hcr 3
      clear hcr hfr
      (try simp only [Exit.inBlock, Exit.then])
      refine bodyPost_ret (v := rval ⟨2, n, []⟩ true) (by simp [results, Tryz.results46, go_sem, r0, r1, r2, r3, rval, rcells]) rfl ⟨⟨2, n, []⟩, _, rfl, HUR.out, Lib.hid (fun _ => HO.out), Lib.hid (fun h => by cases h)⟩
     | true =>
      by_cases hz : n % 1000 = 0
      ·have e1 : (n.tmod 1000 == 0) = true := by rw [ht]; simpa using hz
       have e2 : n.tmod 1000 = 0 := by simpa using e1
       have HO : Hid (o = some ⟨2, n, []⟩) := Lib.hid (HN.out.trans (by simp [hz]))
       clear HN
       go_wp2_with fail
       have HXR := Lib.hid (blk4 HX.out (.int .i64 2) (.int .i64 n) (.string ⟨#[]⟩) (.bool true))
       have HUR := Lib.hid (below_four HU.out (Nat.le_refl _) (.int .i64 2) (.int .i64 n) (.string ⟨#[]⟩) (.bool true))
       generalize ((((w1.setCell ⟨w.heap.size, 0, none⟩ (.int .i64 2)).setCell ⟨w.heap.size, 1, none⟩ (.int .i64 n)).setCell ⟨w.heap.size, 2, none⟩ (.string ⟨#[]⟩)).setCell ⟨w.heap.size, 3, none⟩ (.bool true)) = WR at *
       obtain ⟨hcr, hfr⟩ := cells_of HXR.out
       have r0 : WR.cell? ⟨w.heap.size, 0, none⟩ = some (.int .i64 2) := hcr 0
       have r1 : WR.cell? ⟨w.heap.size, 1, none⟩ = some (.int .i64 n) := hcr 1
       have r2 : WR.cell? ⟨w.heap.size, 2, none⟩ = some (.string ⟨#[]⟩) := hcr 2
       have r3 : WR.cell? ⟨w.heap.size, 3, none⟩ = some (.bool true) := hcr 3
       clear hcr hfr
       (try simp only [Exit.inBlock, Exit.then])
       refine bodyPost_ret (v := rval ⟨2, n, []⟩ true) (by simp [results, Tryz.results46, go_sem, r0, r1, r2, r3, rval, rcells]) rfl ⟨⟨2, n, []⟩, _, rfl, HUR.out, Lib.hid (fun _ => HO.out), Lib.hid (fun h => by cases h)⟩
      ·have e1 : (n.tmod 1000 == 0) = false := by rw [ht]; simpa using hz
       have e2 : ¬ n.tmod 1000 = 0 := by simpa using e1
       have HO : Hid (o = none) := Lib.hid (HN.out.trans (by simp [hz]))
       clear HN
       go_wp2_with fail
       have HXR := Lib.hid (blk4 HX.out (.int .i64 0) (.int .i64 0) (.string ⟨#[]⟩) (.bool false))
       have HUR := Lib.hid (below_four HU.out (Nat.le_refl _) (.int .i64 0) (.int .i64 0) (.string ⟨#[]⟩) (.bool false))
       generalize ((((w1.setCell ⟨w.heap.size, 0, none⟩ (.int .i64 0)).setCell ⟨w.heap.size, 1, none⟩ (.int .i64 0)).setCell ⟨w.heap.size, 2, none⟩ (.string ⟨#[]⟩)).setCell ⟨w.heap.size, 3, none⟩ (.bool false)) = WR at *
       obtain ⟨hcr, hfr⟩ := cells_of HXR.out
       have r0 : WR.cell? ⟨w.heap.size, 0, none⟩ = some (.int .i64 0) := hcr 0
       have r1 : WR.cell? ⟨w.heap.size, 1, none⟩ = some (.int .i64 0) := hcr 1
       have r2 : WR.cell? ⟨w.heap.size, 2, none⟩ = some (.string ⟨#[]⟩) := hcr 2
       have r3 : WR.cell? ⟨w.heap.size, 3, none⟩ = some (.bool false) := hcr 3
       clear hcr hfr
       (try simp only [Exit.inBlock, Exit.then])
       refine bodyPost_ret (v := rval ⟨0, 0, []⟩ false) (by simp [results, Tryz.results46, go_sem, r0, r1, r2, r3, rval, rcells]) rfl ⟨⟨0, 0, []⟩, _, rfl, HUR.out, Lib.hid (fun h => by cases h), Lib.hid (fun _ => HO.out)⟩
  ·have g0 : (r == []) = false := by simpa using hr0
   have HO : Hid (o = none) := Lib.hid (HN.out.trans (by unfold rc; rw [if_pos hr0]))
   clear HN
   go_wp2_with fail
   have HXR := Lib.hid (blk4 HX.out (.int .i64 0) (.int .i64 0) (.string ⟨#[]⟩) (.bool false))
   have HUR := Lib.hid (below_four HU.out (Nat.le_refl _) (.int .i64 0) (.int .i64 0) (.string ⟨#[]⟩) (.bool false))
   generalize ((((w1.setCell ⟨w.heap.size, 0, none⟩ (.int .i64 0)).setCell ⟨w.heap.size, 1, none⟩ (.int .i64 0)).setCell ⟨w.heap.size, 2, none⟩ (.string ⟨#[]⟩)).setCell ⟨w.heap.size, 3, none⟩ (.bool false)) = WR at *
   obtain ⟨hcr, hfr⟩ := cells_of HXR.out
   have r0 : WR.cell? ⟨w.heap.size, 0, none⟩ = some (.int .i64 0) := hcr 0
   have r1 : WR.cell? ⟨w.heap.size, 1, none⟩ = some (.int .i64 0) := hcr 1
   have r2 : WR.cell? ⟨w.heap.size, 2, none⟩ = some (.string ⟨#[]⟩) := hcr 2
   have r3 : WR.cell? ⟨w.heap.size, 3, none⟩ = some (.bool false) := hcr 3
   clear hcr hfr
   (try simp only [Exit.inBlock, Exit.then])
   refine bodyPost_ret (v := rval ⟨0, 0, []⟩ false) (by simp [results, Tryz.results46, go_sem, r0, r1, r2, r3, rval, rcells]) rfl ⟨⟨0, 0, []⟩, _, rfl, HUR.out, Lib.hid (fun h => by cases h), Lib.hid (fun _ => HO.out)⟩
end V
end Go.Proofs.YtafkeolpadfjfaaGreatDoor
namespace Go.Proofs.YtafkeolpadfjfaaGreatDoor
open Go.RowKit
namespace V
open H Y
def allNames : List (List UInt8) := [[98, 97, 99, 107, 103, 114, 111, 117, 110, 100], [98, 111, 114, 100, 101, 114, 45, 99, 111, 108, 111, 114], [99, 111, 108, 111, 114], [98, 111, 114, 100, 101, 114, 45, 116, 111, 112, 45, 119, 105, 100, 116, 104], [98, 111, 114, 100, 101, 114, 45, 114, 105, 103, 104, 116, 45, 119, 105, 100, 116, 104], [98, 111, 114, 100, 101, 114, 45, 98, 111, 116, 116, 111, 109, 45, 119, 105, 100, 116, 104], [98, 111, 114, 100, 101, 114, 45, 108, 101, 102, 116, 45, 119, 105, 100, 116, 104], [100, 105, 115, 112, 108, 97, 121], [102, 108, 101, 120, 45, 98, 97, 115, 105, 115], [104, 101, 105, 103, 104, 116], [119, 105, 100, 116, 104], [102, 108, 101, 120, 45, 100, 105, 114, 101, 99, 116, 105, 111, 110], [102, 108, 101, 120, 45, 103, 114, 111, 119], [102, 108, 101, 120, 45, 115, 104, 114, 105, 110, 107], [102, 108, 101, 120, 45, 119, 114, 97, 112], [102, 111, 110, 116, 45, 115, 105, 122, 101], [109, 105, 110, 45, 119, 105, 100, 116, 104], [112, 97, 100, 100, 105, 110, 103, 45, 116, 111, 112], [112, 97, 100, 100, 105, 110, 103, 45, 114, 105, 103, 104, 116], [112, 97, 100, 100, 105, 110, 103, 45, 98, 111, 116, 116, 111, 109], [112, 97, 100, 100, 105, 110, 103, 45, 108, 101, 102, 116], [108, 101, 102, 116], [116, 111, 112], [109, 97, 114, 103, 105, 110, 45, 116, 111, 112], [109, 97, 114, 103, 105, 110, 45, 114, 105, 103, 104, 116], [109, 97, 114, 103, 105, 110, 45, 98, 111, 116, 116, 111, 109], [109, 97, 114, 103, 105, 110, 45, 108, 101, 102, 116], [108, 105, 110, 101, 45, 104, 101, 105, 103, 104, 116], [109, 97, 120, 45, 119, 105, 100, 116, 104], [111, 114, 100, 101, 114], [111, 118, 101, 114, 102, 108, 111, 119], [112, 111, 115, 105, 116, 105, 111, 110], [116, 101, 120, 116, 45, 97, 108, 105, 103, 110], [118, 101, 114, 116, 105, 99, 97, 108, 45, 97, 108, 105, 103, 110], [118, 105, 115, 105, 98, 105, 108, 105, 116, 121], [119, 104, 105, 116, 101, 45, 115, 112, 97, 99, 101], [122, 45, 105, 110, 100, 101, 120]]
theorem tab_names : (S.tab.all fun r => allNames.contains r.1) = true := by decide +kernel
theorem rtab_none {nm : List UInt8} (h : ∀ n ∈ allNames, nm ≠ n) : S.rtab nm = ([], []) := by
 unfold S.rtab
 have : S.tab.find? (fun r => r.1 == nm) = none := by
  rw [List.find?_eq_none]
  intro r hr hb
  have h1 := List.all_eq_true.1 tab_names r hr
  rw [beq_iff_eq] at hb
  exact h r.1 (List.contains_iff_mem.1 h1) hb.symm
 rw [this]
set_option maxHeartbeats 16000000 in
set_option maxRecDepth 100000 in
theorem table (nm : List UInt8) (w : World) : Calls Tryz.prog 42 #[.string ⟨nm.toArray⟩] w fun e w' => e = .returned (.tuple #[.string ⟨(S.rtab nm).1.toArray⟩, .string ⟨(S.rtab nm).2.toArray⟩]) ∧ w = w' := by
 by_cases h0 : nm = [98, 97, 99, 107, 103, 114, 111, 117, 110, 100]
 ·have HR : Hid (S.rtab nm = ([116, 114, 97, 110, 115, 112, 97, 114, 101, 110, 116], [99, 111, 108, 111, 114])) := Lib.hid (by rw [h0]; decide +kernel)
  have p0 : (nm == [98, 97, 99, 107, 103, 114, 111, 117, 110, 100]) = true := by simpa using h0
  rw [HR.out]
  clear h0 HR
  go_enter Tryz.func42, Tryz.ntmps42
  go_wp2_with fail
  go_ret2
  exact ⟨rfl, rfl⟩
 have g0 : (nm == [98, 97, 99, 107, 103, 114, 111, 117, 110, 100]) = false := by simpa using h0
 by_cases h1 : nm = [98, 111, 114, 100, 101, 114, 45, 99, 111, 108, 111, 114]
 ·have HR : Hid (S.rtab nm = ([], [99, 111, 108, 111, 114])) := Lib.hid (by rw [h1]; decide +kernel)
  have p1 : (nm == [98, 111, 114, 100, 101, 114, 45, 99, 111, 108, 111, 114]) = true := by simpa using h1
  rw [HR.out]
  clear h1 HR
  go_enter Tryz.func42, Tryz.ntmps42
  go_wp2_with fail
  go_ret2
  exact ⟨rfl, rfl⟩
 have g1 : (nm == [98, 111, 114, 100, 101, 114, 45, 99, 111, 108, 111, 114]) = false := by simpa using h1
 by_cases h2 : nm = [99, 111, 108, 111, 114]
 ·have HR : Hid (S.rtab nm = ([], [99, 111, 108, 111, 114])) := Lib.hid (by rw [h2]; decide +kernel)
  have p2 : (nm == [99, 111, 108, 111, 114]) = true := by simpa using h2
  rw [HR.out]
  clear h2 HR
  go_enter Tryz.func42, Tryz.ntmps42
  go_wp2_with fail
  go_ret2
  exact ⟨rfl, rfl⟩
 have g2 : (nm == [99, 111, 108, 111, 114]) = false := by simpa using h2
 by_cases h3 : nm = [98, 111, 114, 100, 101, 114, 45, 116, 111, 112, 45, 119, 105, 100, 116, 104]
 ·have HR : Hid (S.rtab nm = ([], [108, 101, 110, 103, 116, 104])) := Lib.hid (by rw [h3]; decide +kernel)
  have p3 : (nm == [98, 111, 114, 100, 101, 114, 45, 116, 111, 112, 45, 119, 105, 100, 116, 104]) = true := by simpa using h3
  rw [HR.out]
  clear h3 HR
  go_enter Tryz.func42, Tryz.ntmps42
  go_wp2_with fail
  go_ret2
  exact ⟨rfl, rfl⟩
 have g3 : (nm == [98, 111, 114, 100, 101, 114, 45, 116, 111, 112, 45, 119, 105, 100, 116, 104]) = false := by simpa using h3
 by_cases h4 : nm = [98, 111, 114, 100, 101, 114, 45, 114, 105, 103, 104, 116, 45, 119, 105, 100, 116, 104]
 ·have HR : Hid (S.rtab nm = ([], [108, 101, 110, 103, 116, 104])) := Lib.hid (by rw [h4]; decide +kernel)
  have p4 : (nm == [98, 111, 114, 100, 101, 114, 45, 114, 105, 103, 104, 116, 45, 119, 105, 100, 116, 104]) = true := by simpa using h4
  rw [HR.out]
  clear h4 HR
  go_enter Tryz.func42, Tryz.ntmps42
  go_wp2_with fail
  go_ret2
  exact ⟨rfl, rfl⟩
 have g4 : (nm == [98, 111, 114, 100, 101, 114, 45, 114, 105, 103, 104, 116, 45, 119, 105, 100, 116, 104]) = false := by simpa using h4
 by_cases h5 : nm = [98, 111, 114, 100, 101, 114, 45, 98, 111, 116, 116, 111, 109, 45, 119, 105, 100, 116, 104]
 ·have HR : Hid (S.rtab nm = ([], [108, 101, 110, 103, 116, 104])) := Lib.hid (by rw [h5]; decide +kernel)
  have p5 : (nm == [98, 111, 114, 100, 101, 114, 45, 98, 111, 116, 116, 111, 109, 45, 119, 105, 100, 116, 104]) = true := by simpa using h5
  rw [HR.out]
  clear h5 HR
  go_enter Tryz.func42, Tryz.ntmps42
  go_wp2_with fail
  go_ret2
  exact ⟨rfl, rfl⟩
 have g5 : (nm == [98, 111, 114, 100, 101, 114, 45, 98, 111, 116, 116, 111, 109, 45, 119, 105, 100, 116, 104]) = false := by simpa using h5
 by_cases h6 : nm = [98, 111, 114, 100, 101, 114, 45, 108, 101, 102, 116, 45, 119, 105, 100, 116, 104]
 ·have HR : Hid (S.rtab nm = ([], [108, 101, 110, 103, 116, 104])) := Lib.hid (by rw [h6]; decide +kernel)
  have p6 : (nm == [98, 111, 114, 100, 101, 114, 45, 108, 101, 102, 116, 45, 119, 105, 100, 116, 104]) = true := by simpa using h6
  rw [HR.out]
  clear h6 HR
  go_enter Tryz.func42, Tryz.ntmps42
  go_wp2_with fail
  go_ret2
  exact ⟨rfl, rfl⟩
 have g6 : (nm == [98, 111, 114, 100, 101, 114, 45, 108, 101, 102, 116, 45, 119, 105, 100, 116, 104]) = false := by simpa using h6
 by_cases h7 : nm = [100, 105, 115, 112, 108, 97, 121]
 ·have HR : Hid (S.rtab nm = ([98, 108, 111, 99, 107, 32, 102, 108, 101, 120, 32, 105, 110, 108, 105, 110, 101, 32, 105, 110, 108, 105, 110, 101, 45, 98, 108, 111, 99, 107, 32, 108, 105, 115, 116, 45, 105, 116, 101, 109, 32, 110, 111, 110, 101, 32, 116, 97, 98, 108, 101, 32, 116, 97, 98, 108, 101, 45, 99, 101, 108, 108, 32, 116, 97, 98, 108, 101, 45, 114, 111, 119, 32, 116, 97, 98, 108, 101, 45, 114, 111, 119, 45, 103, 114, 111, 117, 112], [119, 111, 114, 100, 115])) := Lib.hid (by rw [h7]; decide +kernel)
  have p7 : (nm == [100, 105, 115, 112, 108, 97, 121]) = true := by simpa using h7
  rw [HR.out]
  clear h7 HR
  go_enter Tryz.func42, Tryz.ntmps42
  go_wp2_with fail
  go_ret2
  exact ⟨rfl, rfl⟩
 have g7 : (nm == [100, 105, 115, 112, 108, 97, 121]) = false := by simpa using h7
 by_cases h8 : nm = [102, 108, 101, 120, 45, 98, 97, 115, 105, 115]
 ·have HR : Hid (S.rtab nm = ([97, 117, 116, 111], [112, 111, 115, 105, 116, 105, 118, 101])) := Lib.hid (by rw [h8]; decide +kernel)
  have p8 : (nm == [102, 108, 101, 120, 45, 98, 97, 115, 105, 115]) = true := by simpa using h8
  rw [HR.out]
  clear h8 HR
  go_enter Tryz.func42, Tryz.ntmps42
  go_wp2_with fail
  go_ret2
  exact ⟨rfl, rfl⟩
 have g8 : (nm == [102, 108, 101, 120, 45, 98, 97, 115, 105, 115]) = false := by simpa using h8
 by_cases h9 : nm = [104, 101, 105, 103, 104, 116]
 ·have HR : Hid (S.rtab nm = ([97, 117, 116, 111], [112, 111, 115, 105, 116, 105, 118, 101])) := Lib.hid (by rw [h9]; decide +kernel)
  have p9 : (nm == [104, 101, 105, 103, 104, 116]) = true := by simpa using h9
  rw [HR.out]
  clear h9 HR
  go_enter Tryz.func42, Tryz.ntmps42
  go_wp2_with fail
  go_ret2
  exact ⟨rfl, rfl⟩
 have g9 : (nm == [104, 101, 105, 103, 104, 116]) = false := by simpa using h9
 by_cases h10 : nm = [119, 105, 100, 116, 104]
 ·have HR : Hid (S.rtab nm = ([97, 117, 116, 111], [112, 111, 115, 105, 116, 105, 118, 101])) := Lib.hid (by rw [h10]; decide +kernel)
  have p10 : (nm == [119, 105, 100, 116, 104]) = true := by simpa using h10
  rw [HR.out]
  clear h10 HR
  go_enter Tryz.func42, Tryz.ntmps42
  go_wp2_with fail
  go_ret2
  exact ⟨rfl, rfl⟩
 have g10 : (nm == [119, 105, 100, 116, 104]) = false := by simpa using h10
 by_cases h11 : nm = [102, 108, 101, 120, 45, 100, 105, 114, 101, 99, 116, 105, 111, 110]
 ·have HR : Hid (S.rtab nm = ([99, 111, 108, 117, 109, 110, 32, 114, 111, 119], [119, 111, 114, 100, 115])) := Lib.hid (by rw [h11]; decide +kernel)
  have p11 : (nm == [102, 108, 101, 120, 45, 100, 105, 114, 101, 99, 116, 105, 111, 110]) = true := by simpa using h11
  rw [HR.out]
  clear h11 HR
  go_enter Tryz.func42, Tryz.ntmps42
  go_wp2_with fail
  go_ret2
  exact ⟨rfl, rfl⟩
 have g11 : (nm == [102, 108, 101, 120, 45, 100, 105, 114, 101, 99, 116, 105, 111, 110]) = false := by simpa using h11
 by_cases h12 : nm = [102, 108, 101, 120, 45, 103, 114, 111, 119]
 ·have HR : Hid (S.rtab nm = ([], [110, 117, 109, 98, 101, 114])) := Lib.hid (by rw [h12]; decide +kernel)
  have p12 : (nm == [102, 108, 101, 120, 45, 103, 114, 111, 119]) = true := by simpa using h12
  rw [HR.out]
  clear h12 HR
  go_enter Tryz.func42, Tryz.ntmps42
  go_wp2_with fail
  go_ret2
  exact ⟨rfl, rfl⟩
 have g12 : (nm == [102, 108, 101, 120, 45, 103, 114, 111, 119]) = false := by simpa using h12
 by_cases h13 : nm = [102, 108, 101, 120, 45, 115, 104, 114, 105, 110, 107]
 ·have HR : Hid (S.rtab nm = ([], [110, 117, 109, 98, 101, 114])) := Lib.hid (by rw [h13]; decide +kernel)
  have p13 : (nm == [102, 108, 101, 120, 45, 115, 104, 114, 105, 110, 107]) = true := by simpa using h13
  rw [HR.out]
  clear h13 HR
  go_enter Tryz.func42, Tryz.ntmps42
  go_wp2_with fail
  go_ret2
  exact ⟨rfl, rfl⟩
 have g13 : (nm == [102, 108, 101, 120, 45, 115, 104, 114, 105, 110, 107]) = false := by simpa using h13
 by_cases h14 : nm = [102, 108, 101, 120, 45, 119, 114, 97, 112]
 ·have HR : Hid (S.rtab nm = ([110, 111, 119, 114, 97, 112, 32, 119, 114, 97, 112], [119, 111, 114, 100, 115])) := Lib.hid (by rw [h14]; decide +kernel)
  have p14 : (nm == [102, 108, 101, 120, 45, 119, 114, 97, 112]) = true := by simpa using h14
  rw [HR.out]
  clear h14 HR
  go_enter Tryz.func42, Tryz.ntmps42
  go_wp2_with fail
  go_ret2
  exact ⟨rfl, rfl⟩
 have g14 : (nm == [102, 108, 101, 120, 45, 119, 114, 97, 112]) = false := by simpa using h14
 by_cases h15 : nm = [102, 111, 110, 116, 45, 115, 105, 122, 101]
 ·have HR : Hid (S.rtab nm = ([], [112, 111, 115, 105, 116, 105, 118, 101])) := Lib.hid (by rw [h15]; decide +kernel)
  have p15 : (nm == [102, 111, 110, 116, 45, 115, 105, 122, 101]) = true := by simpa using h15
  rw [HR.out]
  clear h15 HR
  go_enter Tryz.func42, Tryz.ntmps42
  go_wp2_with fail
  go_ret2
  exact ⟨rfl, rfl⟩
 have g15 : (nm == [102, 111, 110, 116, 45, 115, 105, 122, 101]) = false := by simpa using h15
 by_cases h16 : nm = [109, 105, 110, 45, 119, 105, 100, 116, 104]
 ·have HR : Hid (S.rtab nm = ([], [112, 111, 115, 105, 116, 105, 118, 101])) := Lib.hid (by rw [h16]; decide +kernel)
  have p16 : (nm == [109, 105, 110, 45, 119, 105, 100, 116, 104]) = true := by simpa using h16
  rw [HR.out]
  clear h16 HR
  go_enter Tryz.func42, Tryz.ntmps42
  go_wp2_with fail
  go_ret2
  exact ⟨rfl, rfl⟩
 have g16 : (nm == [109, 105, 110, 45, 119, 105, 100, 116, 104]) = false := by simpa using h16
 by_cases h17 : nm = [112, 97, 100, 100, 105, 110, 103, 45, 116, 111, 112]
 ·have HR : Hid (S.rtab nm = ([], [112, 111, 115, 105, 116, 105, 118, 101])) := Lib.hid (by rw [h17]; decide +kernel)
  have p17 : (nm == [112, 97, 100, 100, 105, 110, 103, 45, 116, 111, 112]) = true := by simpa using h17
  rw [HR.out]
  clear h17 HR
  go_enter Tryz.func42, Tryz.ntmps42
  go_wp2_with fail
  go_ret2
  exact ⟨rfl, rfl⟩
 have g17 : (nm == [112, 97, 100, 100, 105, 110, 103, 45, 116, 111, 112]) = false := by simpa using h17
 by_cases h18 : nm = [112, 97, 100, 100, 105, 110, 103, 45, 114, 105, 103, 104, 116]
 ·have HR : Hid (S.rtab nm = ([], [112, 111, 115, 105, 116, 105, 118, 101])) := Lib.hid (by rw [h18]; decide +kernel)
  have p18 : (nm == [112, 97, 100, 100, 105, 110, 103, 45, 114, 105, 103, 104, 116]) = true := by simpa using h18
  rw [HR.out]
  clear h18 HR
  go_enter Tryz.func42, Tryz.ntmps42
  go_wp2_with fail
  go_ret2
  exact ⟨rfl, rfl⟩
 have g18 : (nm == [112, 97, 100, 100, 105, 110, 103, 45, 114, 105, 103, 104, 116]) = false := by simpa using h18
 by_cases h19 : nm = [112, 97, 100, 100, 105, 110, 103, 45, 98, 111, 116, 116, 111, 109]
 ·have HR : Hid (S.rtab nm = ([], [112, 111, 115, 105, 116, 105, 118, 101])) := Lib.hid (by rw [h19]; decide +kernel)
  have p19 : (nm == [112, 97, 100, 100, 105, 110, 103, 45, 98, 111, 116, 116, 111, 109]) = true := by simpa using h19
  rw [HR.out]
  clear h19 HR
  go_enter Tryz.func42, Tryz.ntmps42
  go_wp2_with fail
  go_ret2
  exact ⟨rfl, rfl⟩
 have g19 : (nm == [112, 97, 100, 100, 105, 110, 103, 45, 98, 111, 116, 116, 111, 109]) = false := by simpa using h19
 by_cases h20 : nm = [112, 97, 100, 100, 105, 110, 103, 45, 108, 101, 102, 116]
 ·have HR : Hid (S.rtab nm = ([], [112, 111, 115, 105, 116, 105, 118, 101])) := Lib.hid (by rw [h20]; decide +kernel)
  have p20 : (nm == [112, 97, 100, 100, 105, 110, 103, 45, 108, 101, 102, 116]) = true := by simpa using h20
  rw [HR.out]
  clear h20 HR
  go_enter Tryz.func42, Tryz.ntmps42
  go_wp2_with fail
  go_ret2
  exact ⟨rfl, rfl⟩
 have g20 : (nm == [112, 97, 100, 100, 105, 110, 103, 45, 108, 101, 102, 116]) = false := by simpa using h20
 by_cases h21 : nm = [108, 101, 102, 116]
 ·have HR : Hid (S.rtab nm = ([97, 117, 116, 111], [97, 110, 121])) := Lib.hid (by rw [h21]; decide +kernel)
  have p21 : (nm == [108, 101, 102, 116]) = true := by simpa using h21
  rw [HR.out]
  clear h21 HR
  go_enter Tryz.func42, Tryz.ntmps42
  go_wp2_with fail
  go_ret2
  exact ⟨rfl, rfl⟩
 have g21 : (nm == [108, 101, 102, 116]) = false := by simpa using h21
 by_cases h22 : nm = [116, 111, 112]
 ·have HR : Hid (S.rtab nm = ([97, 117, 116, 111], [97, 110, 121])) := Lib.hid (by rw [h22]; decide +kernel)
  have p22 : (nm == [116, 111, 112]) = true := by simpa using h22
  rw [HR.out]
  clear h22 HR
  go_enter Tryz.func42, Tryz.ntmps42
  go_wp2_with fail
  go_ret2
  exact ⟨rfl, rfl⟩
 have g22 : (nm == [116, 111, 112]) = false := by simpa using h22
 by_cases h23 : nm = [109, 97, 114, 103, 105, 110, 45, 116, 111, 112]
 ·have HR : Hid (S.rtab nm = ([97, 117, 116, 111], [97, 110, 121])) := Lib.hid (by rw [h23]; decide +kernel)
  have p23 : (nm == [109, 97, 114, 103, 105, 110, 45, 116, 111, 112]) = true := by simpa using h23
  rw [HR.out]
  clear h23 HR
  go_enter Tryz.func42, Tryz.ntmps42
  go_wp2_with fail
  go_ret2
  exact ⟨rfl, rfl⟩
 have g23 : (nm == [109, 97, 114, 103, 105, 110, 45, 116, 111, 112]) = false := by simpa using h23
 by_cases h24 : nm = [109, 97, 114, 103, 105, 110, 45, 114, 105, 103, 104, 116]
 ·have HR : Hid (S.rtab nm = ([97, 117, 116, 111], [97, 110, 121])) := Lib.hid (by rw [h24]; decide +kernel)
  have p24 : (nm == [109, 97, 114, 103, 105, 110, 45, 114, 105, 103, 104, 116]) = true := by simpa using h24
  rw [HR.out]
  clear h24 HR
  go_enter Tryz.func42, Tryz.ntmps42
  go_wp2_with fail
  go_ret2
  exact ⟨rfl, rfl⟩
 have g24 : (nm == [109, 97, 114, 103, 105, 110, 45, 114, 105, 103, 104, 116]) = false := by simpa using h24
 by_cases h25 : nm = [109, 97, 114, 103, 105, 110, 45, 98, 111, 116, 116, 111, 109]
 ·have HR : Hid (S.rtab nm = ([97, 117, 116, 111], [97, 110, 121])) := Lib.hid (by rw [h25]; decide +kernel)
  have p25 : (nm == [109, 97, 114, 103, 105, 110, 45, 98, 111, 116, 116, 111, 109]) = true := by simpa using h25
  rw [HR.out]
  clear h25 HR
  go_enter Tryz.func42, Tryz.ntmps42
  go_wp2_with fail
  go_ret2
  exact ⟨rfl, rfl⟩
 have g25 : (nm == [109, 97, 114, 103, 105, 110, 45, 98, 111, 116, 116, 111, 109]) = false := by simpa using h25
 by_cases h26 : nm = [109, 97, 114, 103, 105, 110, 45, 108, 101, 102, 116]
 ·have HR : Hid (S.rtab nm = ([97, 117, 116, 111], [97, 110, 121])) := Lib.hid (by rw [h26]; decide +kernel)
  have p26 : (nm == [109, 97, 114, 103, 105, 110, 45, 108, 101, 102, 116]) = true := by simpa using h26
  rw [HR.out]
  clear h26 HR
  go_enter Tryz.func42, Tryz.ntmps42
  go_wp2_with fail
  go_ret2
  exact ⟨rfl, rfl⟩
 have g26 : (nm == [109, 97, 114, 103, 105, 110, 45, 108, 101, 102, 116]) = false := by simpa using h26
 by_cases h27 : nm = [108, 105, 110, 101, 45, 104, 101, 105, 103, 104, 116]
 ·have HR : Hid (S.rtab nm = ([110, 111, 114, 109, 97, 108], [108, 105, 110, 101])) := Lib.hid (by rw [h27]; decide +kernel)
  have p27 : (nm == [108, 105, 110, 101, 45, 104, 101, 105, 103, 104, 116]) = true := by simpa using h27
  rw [HR.out]
  clear h27 HR
  go_enter Tryz.func42, Tryz.ntmps42
  go_wp2_with fail
  go_ret2
  exact ⟨rfl, rfl⟩
 have g27 : (nm == [108, 105, 110, 101, 45, 104, 101, 105, 103, 104, 116]) = false := by simpa using h27
 by_cases h28 : nm = [109, 97, 120, 45, 119, 105, 100, 116, 104]
 ·have HR : Hid (S.rtab nm = ([110, 111, 110, 101], [112, 111, 115, 105, 116, 105, 118, 101])) := Lib.hid (by rw [h28]; decide +kernel)
  have p28 : (nm == [109, 97, 120, 45, 119, 105, 100, 116, 104]) = true := by simpa using h28
  rw [HR.out]
  clear h28 HR
  go_enter Tryz.func42, Tryz.ntmps42
  go_wp2_with fail
  go_ret2
  exact ⟨rfl, rfl⟩
 have g28 : (nm == [109, 97, 120, 45, 119, 105, 100, 116, 104]) = false := by simpa using h28
 by_cases h29 : nm = [111, 114, 100, 101, 114]
 ·have HR : Hid (S.rtab nm = ([], [105, 110, 116, 101, 103, 101, 114])) := Lib.hid (by rw [h29]; decide +kernel)
  have p29 : (nm == [111, 114, 100, 101, 114]) = true := by simpa using h29
  rw [HR.out]
  clear h29 HR
  go_enter Tryz.func42, Tryz.ntmps42
  go_wp2_with fail
  go_ret2
  exact ⟨rfl, rfl⟩
 have g29 : (nm == [111, 114, 100, 101, 114]) = false := by simpa using h29
 by_cases h30 : nm = [111, 118, 101, 114, 102, 108, 111, 119]
 ·have HR : Hid (S.rtab nm = ([104, 105, 100, 100, 101, 110, 32, 115, 99, 114, 111, 108, 108, 32, 118, 105, 115, 105, 98, 108, 101], [119, 111, 114, 100, 115])) := Lib.hid (by rw [h30]; decide +kernel)
  have p30 : (nm == [111, 118, 101, 114, 102, 108, 111, 119]) = true := by simpa using h30
  rw [HR.out]
  clear h30 HR
  go_enter Tryz.func42, Tryz.ntmps42
  go_wp2_with fail
  go_ret2
  exact ⟨rfl, rfl⟩
 have g30 : (nm == [111, 118, 101, 114, 102, 108, 111, 119]) = false := by simpa using h30
 by_cases h31 : nm = [112, 111, 115, 105, 116, 105, 111, 110]
 ·have HR : Hid (S.rtab nm = ([97, 98, 115, 111, 108, 117, 116, 101, 32, 114, 101, 108, 97, 116, 105, 118, 101, 32, 115, 116, 97, 116, 105, 99], [119, 111, 114, 100, 115])) := Lib.hid (by rw [h31]; decide +kernel)
  have p31 : (nm == [112, 111, 115, 105, 116, 105, 111, 110]) = true := by simpa using h31
  rw [HR.out]
  clear h31 HR
  go_enter Tryz.func42, Tryz.ntmps42
  go_wp2_with fail
  go_ret2
  exact ⟨rfl, rfl⟩
 have g31 : (nm == [112, 111, 115, 105, 116, 105, 111, 110]) = false := by simpa using h31
 by_cases h32 : nm = [116, 101, 120, 116, 45, 97, 108, 105, 103, 110]
 ·have HR : Hid (S.rtab nm = ([99, 101, 110, 116, 101, 114, 32, 108, 101, 102, 116, 32, 114, 105, 103, 104, 116], [119, 111, 114, 100, 115])) := Lib.hid (by rw [h32]; decide +kernel)
  have p32 : (nm == [116, 101, 120, 116, 45, 97, 108, 105, 103, 110]) = true := by simpa using h32
  rw [HR.out]
  clear h32 HR
  go_enter Tryz.func42, Tryz.ntmps42
  go_wp2_with fail
  go_ret2
  exact ⟨rfl, rfl⟩
 have g32 : (nm == [116, 101, 120, 116, 45, 97, 108, 105, 103, 110]) = false := by simpa using h32
 by_cases h33 : nm = [118, 101, 114, 116, 105, 99, 97, 108, 45, 97, 108, 105, 103, 110]
 ·have HR : Hid (S.rtab nm = ([98, 111, 116, 116, 111, 109, 32, 109, 105, 100, 100, 108, 101, 32, 116, 111, 112], [119, 111, 114, 100, 115])) := Lib.hid (by rw [h33]; decide +kernel)
  have p33 : (nm == [118, 101, 114, 116, 105, 99, 97, 108, 45, 97, 108, 105, 103, 110]) = true := by simpa using h33
  rw [HR.out]
  clear h33 HR
  go_enter Tryz.func42, Tryz.ntmps42
  go_wp2_with fail
  go_ret2
  exact ⟨rfl, rfl⟩
 have g33 : (nm == [118, 101, 114, 116, 105, 99, 97, 108, 45, 97, 108, 105, 103, 110]) = false := by simpa using h33
 by_cases h34 : nm = [118, 105, 115, 105, 98, 105, 108, 105, 116, 121]
 ·have HR : Hid (S.rtab nm = ([104, 105, 100, 100, 101, 110, 32, 118, 105, 115, 105, 98, 108, 101], [119, 111, 114, 100, 115])) := Lib.hid (by rw [h34]; decide +kernel)
  have p34 : (nm == [118, 105, 115, 105, 98, 105, 108, 105, 116, 121]) = true := by simpa using h34
  rw [HR.out]
  clear h34 HR
  go_enter Tryz.func42, Tryz.ntmps42
  go_wp2_with fail
  go_ret2
  exact ⟨rfl, rfl⟩
 have g34 : (nm == [118, 105, 115, 105, 98, 105, 108, 105, 116, 121]) = false := by simpa using h34
 by_cases h35 : nm = [119, 104, 105, 116, 101, 45, 115, 112, 97, 99, 101]
 ·have HR : Hid (S.rtab nm = ([110, 111, 114, 109, 97, 108, 32, 110, 111, 119, 114, 97, 112, 32, 112, 114, 101], [119, 111, 114, 100, 115])) := Lib.hid (by rw [h35]; decide +kernel)
  have p35 : (nm == [119, 104, 105, 116, 101, 45, 115, 112, 97, 99, 101]) = true := by simpa using h35
  rw [HR.out]
  clear h35 HR
  go_enter Tryz.func42, Tryz.ntmps42
  go_wp2_with fail
  go_ret2
  exact ⟨rfl, rfl⟩
 have g35 : (nm == [119, 104, 105, 116, 101, 45, 115, 112, 97, 99, 101]) = false := by simpa using h35
 by_cases h36 : nm = [122, 45, 105, 110, 100, 101, 120]
 ·have HR : Hid (S.rtab nm = ([97, 117, 116, 111], [105, 110, 116, 101, 103, 101, 114])) := Lib.hid (by rw [h36]; decide +kernel)
  have p36 : (nm == [122, 45, 105, 110, 100, 101, 120]) = true := by simpa using h36
  rw [HR.out]
  clear h36 HR
  go_enter Tryz.func42, Tryz.ntmps42
  go_wp2_with fail
  go_ret2
  exact ⟨rfl, rfl⟩
 have g36 : (nm == [122, 45, 105, 110, 100, 101, 120]) = false := by simpa using h36
 have HR : Hid (S.rtab nm = ([], [])) := Lib.hid (rtab_none (by
  intro n hn
  unfold allNames at hn
  simp only [List.mem_cons, List.not_mem_nil, or_false] at hn
  rcases hn with rfl | rfl | rfl | rfl | rfl | rfl | rfl | rfl | rfl | rfl | rfl | rfl | rfl | rfl | rfl | rfl | rfl | rfl | rfl | rfl | rfl | rfl | rfl | rfl | rfl | rfl | rfl | rfl | rfl | rfl | rfl | rfl | rfl | rfl | rfl | rfl | rfl
  ·exact h0
  ·exact h1
  ·exact h2
  ·exact h3
  ·exact h4
  ·exact h5
  ·exact h6
  ·exact h7
  ·exact h8
  ·exact h9
  ·exact h10
  ·exact h11
  ·exact h12
  ·exact h13
  ·exact h14
  ·exact h15
  ·exact h16
  ·exact h17
  ·exact h18
  ·exact h19
  ·exact h20
  ·exact h21
  ·exact h22
  ·exact h23
  ·exact h24
  ·exact h25
  ·exact h26
  ·exact h27
  ·exact h28
  ·exact h29
  ·exact h30
  ·exact h31
  ·exact h32
  ·exact h33
  ·exact h34
  ·exact h35
  ·exact h36))
 rw [HR.out]
 clear HR h0 h1 h2 h3 h4 h5 h6 h7 h8 h9 h10 h11 h12 h13 h14 h15 h16 h17 h18 h19 h20 h21 h22 h23 h24 h25 h26 h27 h28 h29 h30 h31 h32 h33 h34 h35 h36
 go_enter Tryz.func42, Tryz.ntmps42
 go_wp2_with fail
 go_ret2
 exact ⟨rfl, rfl⟩
end V
end Go.Proofs.YtafkeolpadfjfaaGreatDoor
namespace Go.Proofs.YtafkeolpadfjfaaGreatDoor
open Go.RowKit
namespace V
open H Y
theorem rlower (s : List UInt8) (w : World) (hs : s.length ≤ 100000) : Calls Tryz.prog 18 #[.string ⟨s.toArray⟩] w fun e w' => e = .returned (.string ⟨(S.lower s).toArray⟩) ∧ Below w.heap.size w w' := by
 have := T.refLower ⟨s.toArray⟩ w (by rw [bytes_size]; omega)
 rw [bytes_toList] at this
 exact this
theorem rtrim (s : List UInt8) (w : World) (hs : s.length ≤ 1000000) : Calls Tryz.prog 19 #[.string ⟨s.toArray⟩] w fun e w' => e = .returned (.string ⟨(S.trim s).toArray⟩) ∧ w = w' := by
 have := T.refTrim ⟨s.toArray⟩ w (by rw [bytes_size]; omega)
 rw [bytes_toList] at this
 exact this
theorem rfields (s : List UInt8) (w : World) (hs : s.length ≤ 100000) : Calls Tryz.prog 15 #[.string ⟨s.toArray⟩] w fun e w' => ∃ ao cap, e = .returned (.slice ao (S.words s).length cap) ∧ T.StrRow w' ao (S.words s) ∧ Below w.heap.size w w' := by
 have := T.refFields ⟨s.toArray⟩ w (by rw [bytes_size]; omega)
 rw [bytes_toList] at this
 exact this
theorem flds_count : ∀ (l cur : List UInt8), (T.flds cur l).length ≤ l.length + 1 ∧ (cur = [] → (T.flds cur l).length ≤ l.length)
 | [], cur => by
  unfold T.flds
  split
  ·exact ⟨Nat.zero_le _, fun _ => Nat.zero_le _⟩
  ·rename_i h; exact ⟨Nat.le_refl _, fun h1 => absurd h1 h⟩
 | b :: r, cur => by
  have h1 := flds_count r []
  have h2 := flds_count r (cur ++ [b])
  have h3 := h1.2 rfl
  rw [T.flds, List.length_cons]
  split
  ·split
   ·exact ⟨by omega, fun _ => by omega⟩
   ·rename_i h; rw [List.length_cons]; exact ⟨by omega, fun hc => absurd hc h⟩
  ·exact ⟨by omega, fun hc => by omega⟩
set_option maxHeartbeats 4000000 in
set_option maxRecDepth 100000 in
theorem one (s lst : List UInt8) (w : World) (hl : lst.length ≤ 100000) :
  Calls Tryz.prog 43 #[.string ⟨s.toArray⟩, .string ⟨lst.toArray⟩] w fun e w' => e = .returned (.bool ((S.words lst).contains s)) ∧ Below w.heap.size w w' := by
 have QF := Lib.hid (fun W => rfields lst W hl)
 have hwc : (S.words lst).length ≤ 100000 := Nat.le_trans ((flds_count lst []).2 rfl) hl
 generalize S.words lst = L at *
 have HC0 : Hid (L.contains s = (L.drop 0).contains s) := Lib.hid (by rw [List.drop_zero])
 generalize L.contains s = B at *
 go_enter Tryz.func43, Tryz.ntmps43
 go_wp2_with fail
 refine (QF.out _).mono ?_
 rintro e w1 ⟨ao, cap, rfl, hrow, hb⟩
 have HB := Lib.hid hb
 have HR := Lib.hid hrow
 generalize hNN : L.length = N at *
 have HN := Lib.hid hNN
 clear hb hrow QF hNN
 go_wp2_with fail
 go_loopw [6] (fun v6 wr => ∃ k : Nat, v6 = .int .i64 k ∧ k ≤ N ∧ Hid (B = (L.drop k).contains s) ∧ Hid (w1 = wr)) (fun v6 _ => N - (intOf v6).toNat)
 case atStart => exact ⟨0, rfl, Nat.zero_le _, HC0, Lib.hid (by first | rfl | trivial)⟩
 case round =>
  obtain ⟨k, rfl, hk, HC, HW⟩ := hrel
  obtain rfl := HW.out
  clear HW HC0
  by_cases hlt : k < N
  ·have hlI : (k : Int) < (N : Int) := by omega
   have hkl : k < L.length := by rw [HN.out]; exact hlt
   obtain ⟨g, hg, hglt, hc⟩ := HR.out (by omega)
   subst hg
   have c0 := hc k hkl
   have hdr : L.drop k = L.getD k [] :: L.drop (k + 1) := by rw [List.drop_eq_getElem_cons hkl, List.getD_eq_getElem?_getD, List.getElem?_eq_getElem hkl]; rfl
   have HC2 := Lib.hid (HC.out.trans (by rw [hdr]))
   clear hdr hc HC
   generalize L.getD k [] = x at *
   cases hx : x == s with
   | true =>
    have HC3 : Hid (B = true) := Lib.hid (HC2.out.trans (by rw [beq_iff_eq] at hx; subst hx; simp))
    clear HC2
    go_wp2_with fail
    go_ret
    exact ⟨by rw [HC3.out]; rfl, HB.out⟩
   | false =>
    have HC3 : Hid (B = (L.drop (k + 1)).contains s) := Lib.hid (HC2.out.trans (by rw [List.contains_cons, show (s == x) = false by rw [beq_eq_false_iff_ne] at hx ⊢; exact fun h => hx h.symm]; rfl))
    clear HC2
    go_wp2_with fail
    go_roundw
    case rel => exact ⟨k + 1, by go_num, by omega, HC3, Lib.hid (by first | rfl | trivial)⟩
    case measure => simp [intOf]; omega
  ·have HC3 : Hid (B = false) := Lib.hid (HC.out.trans (by rw [List.drop_eq_nil_of_le (by rw [HN.out]; omega)]; rfl))
   have hlI : ¬ (k : Int) < (N : Int) := by omega
   clear HC
   go_wp2_with fail
   go_ret
   exact ⟨by rw [HC3.out]; rfl, HB.out⟩
def colorText : List UInt8 := [98, 108, 97, 99, 107, 32, 48, 48, 48, 48, 48, 48, 32, 98, 108, 117, 101, 32, 48, 48, 48, 48, 102, 102, 32, 103, 114, 97, 121, 32, 56, 48, 56, 48, 56, 48, 32, 103, 114, 101, 101, 110, 32, 48, 48, 56, 48, 48, 48, 32, 109, 97, 114, 111, 111, 110, 32, 56, 48, 48, 48, 48, 48, 32, 110, 97, 118, 121, 32, 48, 48, 48, 48, 56, 48, 32, 111, 114, 97, 110, 103, 101, 32, 102, 102, 97, 53, 48, 48, 32, 112, 117, 114, 112, 108, 101, 32, 56, 48, 48, 48, 56, 48, 32, 114, 101, 100, 32, 102, 102, 48, 48, 48, 48, 32, 115, 105, 108, 118, 101, 114, 32, 99, 48, 99, 48, 99, 48, 32, 119, 104, 105, 116, 101, 32, 102, 102, 102, 102, 102, 102, 32, 121, 101, 108, 108, 111, 119, 32, 102, 102, 102, 102, 48, 48]
theorem color_words : S.words colorText = S.colors.flatMap fun p => [p.1, p.2] := by decide +kernel
def colorAt (j : Nat) : List UInt8 × List UInt8 := S.colors.getD j ([], [])
theorem color_get (j : Nat) (hj : j < 12) : (S.words colorText).getD (2 * j) [] = (colorAt j).1 ∧ (S.words colorText).getD (2 * j + 1) [] = (colorAt j).2 := by
 have key : ∀ j : Fin 12, (S.words colorText).getD (2 * j.1) [] = (colorAt j.1).1 ∧ (S.words colorText).getD (2 * j.1 + 1) [] = (colorAt j.1).2 := by decide +kernel
 exact key ⟨j, hj⟩
theorem color_six (j : Nat) (hj : j < 12) : (colorAt j).2.length = 6 := by
 have key : ∀ j : Fin 12, (colorAt j.1).2.length = 6 := by decide +kernel
 exact key ⟨j, hj⟩
theorem color_drop (j : Nat) (hj : j < 12) : S.colors.drop j = colorAt j :: S.colors.drop (j + 1) := by
 have : j < S.colors.length := hj
 rw [List.drop_eq_getElem_cons this]
 unfold colorAt
 rw [List.getD_eq_getElem?_getD, List.getElem?_eq_getElem this]; rfl
def namedIn (s : List UInt8) (l : List (List UInt8 × List UInt8)) : Option S.Val := match l.find? (fun p => p.1 == s) with | some p => some ⟨6, 0, 35 :: p.2⟩ | none => none
theorem hex_cases (c : UInt8) : (S.isHex c = true ∧ 48 ≤ c.toNat ∧ c.toNat ≤ 57) ∨ (S.isHex c = true ∧ 57 < c.toNat ∧ 97 ≤ c.toNat ∧ c.toNat ≤ 102) ∨ (S.isHex c = false ∧ c.toNat < 48) ∨ (S.isHex c = false ∧ 57 < c.toNat ∧ c.toNat < 97) ∨ (S.isHex c = false ∧ 102 < c.toNat) := by
 have key : ∀ c : Fin 256, (S.isHex (UInt8.ofNat c.1) = true ∧ 48 ≤ c.1 ∧ c.1 ≤ 57) ∨ (S.isHex (UInt8.ofNat c.1) = true ∧ 57 < c.1 ∧ 97 ≤ c.1 ∧ c.1 ≤ 102) ∨ (S.isHex (UInt8.ofNat c.1) = false ∧ c.1 < 48) ∨ (S.isHex (UInt8.ofNat c.1) = false ∧ 57 < c.1 ∧ c.1 < 97) ∨ (S.isHex (UInt8.ofNat c.1) = false ∧ 102 < c.1) := by decide +kernel
 have := key ⟨c.toNat, c.toNat_lt⟩
 simpa using this
def dup (b : Bool) (l : List UInt8) : List UInt8 := if b then l.flatMap (fun c => [c, c]) else l
theorem dup_len (b : Bool) (l : List UInt8) : (dup b l).length ≤ 2 * l.length := by
 cases b with
 | false => unfold dup; rw [if_neg Bool.false_ne_true]; omega
 | true => unfold dup; rw [if_pos rfl, S.flat_len]; exact Nat.le_refl _
theorem dup_snoc (b : Bool) (l : List UInt8) (c : UInt8) : dup b (l ++ [c]) = dup b l ++ (if b then [c, c] else [c]) := by cases b <;> simp [dup]
set_option maxHeartbeats 16000000 in
set_option maxRecDepth 100000 in
theorem color (s : List UInt8) (w : World) (hs : s.length ≤ 90000) :
  Calls Tryz.prog 44 #[.string ⟨s.toArray⟩] w (RvPost (S.rcolor s) w) := by
 have QF := Lib.hid (fun W => rfields colorText W (by decide))
 have hwl : (S.words colorText).length = 24 := by rw [color_words]; rfl
 have HWL := Lib.hid hwl
 clear hwl
 have HG := Lib.hid color_get
 have HM0 : Hid (S.rcolor s = match namedIn s (S.colors.drop 0) with | some v => some v | none => S.rhash s) := Lib.hid rfl
 generalize S.rcolor s = o at *
 generalize S.words colorText = L at *
 have zs := bytes_size s
 go_enter Tryz.func44, Tryz.ntmps44
 go_upto_region 1 with fail
 have HX0 : Hid (Blk w.heap.size #[.int .i64 0, .int .i64 0, .string ⟨#[]⟩, .bool false] 44 (w.alloc (.cells #[.int .i64 0, .int .i64 0, .string ⟨#[]⟩, .bool false] 44))) := Lib.hid (Blk.new w _ _)
 have HU0 : Hid (Below w.heap.size w (w.alloc (.cells #[.int .i64 0, .int .i64 0, .string ⟨#[]⟩, .bool false] 44))) := Lib.hid ((Below.refl _ w).alloc (Nat.le_refl _) _)
 generalize (w.alloc (.cells #[.int .i64 0, .int .i64 0, .string ⟨#[]⟩, .bool false] 44)) = W0 at *
 unfold colorText at QF
 go_wp2_with fail
 refine (QF.out _).mono ?_
 rintro e w1 ⟨ao, cap, rfl, hrow, hb⟩
 have HX := Lib.hid (HX0.out.below hb)
 have HU := Lib.hid (HU0.out.trans (hb.mono HU0.out.size))
 have HR := Lib.hid hrow
 rw [HWL.out]
 clear hb HX0 HU0 QF hrow
 obtain ⟨hcx, hfx⟩ := cells_of HX.out
 have x0 : w1.cell? ⟨w.heap.size, 0, none⟩ = some (.int .i64 0) := hcx 0
 have x1 : w1.cell? ⟨w.heap.size, 1, none⟩ = some (.int .i64 0) := hcx 1
 have x2 : w1.cell? ⟨w.heap.size, 2, none⟩ = some (.string ⟨#[]⟩) := hcx 2
 have x3 : w1.cell? ⟨w.heap.size, 3, none⟩ = some (.bool false) := hcx 3
 have f0 : w1.frozen? ⟨w.heap.size, 0, none⟩ = false := hfx 0 (by show 0 < 4; omega)
 have f1 : w1.frozen? ⟨w.heap.size, 1, none⟩ = false := hfx 1 (by show 1 < 4; omega)
 have f2 : w1.frozen? ⟨w.heap.size, 2, none⟩ = false := hfx 2 (by show 2 < 4; omega)
 have f3 : w1.frozen? ⟨w.heap.size, 3, none⟩ = false := hfx 3 (by show 3 < 4; omega)
 clear hcx hfx
 go_wp2_with fail
 go_loopw [4] (fun v4 wr => ∃ j : Nat, v4 = .int .i64 ((2 * j : Nat) : Int) ∧ j ≤ 12 ∧ Hid (o = match namedIn s (S.colors.drop j) with | some v => some v | none => S.rhash s) ∧ Hid (w1 = wr)) (fun v4 _ => 24 - (intOf v4).toNat)
 case atStart => exact ⟨0, rfl, by omega, HM0, Lib.hid (by first | rfl | trivial)⟩
 case round =>
  obtain ⟨j, rfl, hj, HM, HW⟩ := hrel
  obtain rfl := HW.out
  clear HW HM0
  by_cases hlt : j < 12
  ·have hlI : ((2 * j : Nat) : Int) < 24 := by omega
   have hl2 : (2 : Int) * (j : Int) < 24 := by omega
   have hl3 : (2 : Int) * (j : Int) + 1 < 24 := by omega
   have hl4 : (0 : Int) ≤ (2 : Int) * (j : Int) := by omega
   have hl5 : (0 : Int) ≤ (2 : Int) * (j : Int) + 1 := by omega
   have t1 : ((2 : Int) * (j : Int)).toNat = 2 * j := by omega
   have t2 : ((2 : Int) * (j : Int) + 1).toNat = 2 * j + 1 := by omega
   have w1' : IntKind.i64.wrap ((2 : Int) * (j : Int) + 1) = (2 : Int) * (j : Int) + 1 := IntWalk.i64_in _ (by omega)
   have w2' : IntKind.i64.wrap ((2 : Int) * (j : Int) + 2) = (2 : Int) * (j : Int) + 2 := IntWalk.i64_in _ (by omega)
   obtain ⟨g, hg, hglt, hc⟩ := HR.out (by rw [HWL.out]; omega)
   subst hg
   have c0 := hc (2 * j) (by rw [HWL.out]; omega)
   have c1 := hc (2 * j + 1) (by rw [HWL.out]; omega)
   obtain ⟨g1, g2⟩ := HG.out j hlt
   rw [g1] at c0
   rw [g2] at c1
   have HM2 := Lib.hid (HM.out.trans (by rw [color_drop j hlt]))
   clear hc g1 g2 HM
   have hd6 := color_six j hlt
   generalize colorAt j = ca at *
   obtain ⟨nm, dg⟩ := ca
   dsimp only at c0 c1 hd6
   cases hx : nm == s with
   | true =>
    have HO : Hid (o = some ⟨6, 0, 35 :: dg⟩) := Lib.hid (HM2.out.trans (by unfold namedIn; rw [List.find?_cons, show ((nm, dg).1 == s) = true from hx]))
    have hap : (⟨#[35]⟩ : ByteArray) ++ ⟨dg.toArray⟩ = ⟨(35 :: dg).toArray⟩ := append_bytes [35] dg
    have zd := bytes_size dg
    clear HM2
    go_wp2_with fail
    have HXR := Lib.hid (blk4 HX.out (.int .i64 6) (.int .i64 0) (.string ⟨(35 :: dg).toArray⟩) (.bool true))
    have HUR := Lib.hid (below_four HU.out (Nat.le_refl _) (.int .i64 6) (.int .i64 0) (.string ⟨(35 :: dg).toArray⟩) (.bool true))
    generalize ((((w1.setCell ⟨w.heap.size, 0, none⟩ (.int .i64 6)).setCell ⟨w.heap.size, 1, none⟩ (.int .i64 0)).setCell ⟨w.heap.size, 2, none⟩ (.string ⟨(35 :: dg).toArray⟩)).setCell ⟨w.heap.size, 3, none⟩ (.bool true)) = WR at *
    obtain ⟨hcr, hfr⟩ := cells_of HXR.out
    have r0 : WR.cell? ⟨w.heap.size, 0, none⟩ = some (.int .i64 6) := hcr 0
    have r1 : WR.cell? ⟨w.heap.size, 1, none⟩ = some (.int .i64 0) := hcr 1
    have r2 : WR.cell? ⟨w.heap.size, 2, none⟩ = some (.string ⟨(35 :: dg).toArray⟩) := hcr 2
    have r3 : WR.cell? ⟨w.heap.size, 3, none⟩ = some (.bool true) := hcr 3
    clear hcr hfr
    (try simp only [Exit.inBlock, Exit.then])
    refine bodyPost_ret (v := rval ⟨6, 0, 35 :: dg⟩ true) (by simp [results, Tryz.results44, go_sem, r0, r1, r2, r3, rval, rcells]) rfl ⟨⟨6, 0, 35 :: dg⟩, _, rfl, HUR.out, Lib.hid (fun _ => HO.out), Lib.hid (fun h => by cases h)⟩
   | false =>
    have HM3 : Hid (o = match namedIn s (S.colors.drop (j + 1)) with | some v => some v | none => S.rhash s) := Lib.hid (HM2.out.trans (by unfold namedIn; rw [List.find?_cons, show ((nm, dg).1 == s) = false from hx]))
    clear HM2
    go_wp2_with fail
    go_roundw
    case rel => exact ⟨j + 1, congrArg (Value.int IntKind.i64) (by push_cast; omega), by omega, HM3, Lib.hid (by first | rfl | trivial)⟩
    case measure => simp [intOf]; omega
  ·obtain rfl : j = 12 := by omega
   have HH : Hid (o = S.rhash s) := Lib.hid (HM.out.trans (by rfl))
   clear HM HG HR
   cases s with
   | nil =>
    have HO : Hid (o = none) := Lib.hid (HH.out.trans (by rfl))
    clear HH
    go_wp2_with fail
    have HXR := Lib.hid (blk4 HX.out (.int .i64 0) (.int .i64 0) (.string ⟨#[]⟩) (.bool false))
    have HUR := Lib.hid (below_four HU.out (Nat.le_refl _) (.int .i64 0) (.int .i64 0) (.string ⟨#[]⟩) (.bool false))
    generalize ((((w1.setCell ⟨w.heap.size, 0, none⟩ (.int .i64 0)).setCell ⟨w.heap.size, 1, none⟩ (.int .i64 0)).setCell ⟨w.heap.size, 2, none⟩ (.string ⟨#[]⟩)).setCell ⟨w.heap.size, 3, none⟩ (.bool false)) = WR at *
    obtain ⟨hcr, hfr⟩ := cells_of HXR.out
    have r0 : WR.cell? ⟨w.heap.size, 0, none⟩ = some (.int .i64 0) := hcr 0
    have r1 : WR.cell? ⟨w.heap.size, 1, none⟩ = some (.int .i64 0) := hcr 1
    have r2 : WR.cell? ⟨w.heap.size, 2, none⟩ = some (.string ⟨#[]⟩) := hcr 2
    have r3 : WR.cell? ⟨w.heap.size, 3, none⟩ = some (.bool false) := hcr 3
    clear hcr hfr
    (try simp only [Exit.inBlock, Exit.then])
    refine bodyPost_ret (v := rval ⟨0, 0, []⟩ false) (by simp [results, Tryz.results44, go_sem, r0, r1, r2, r3, rval, rcells]) rfl ⟨⟨0, 0, []⟩, _, rfl, HUR.out, Lib.hid (fun h => by cases h), Lib.hid (fun _ => HO.out)⟩
   | cons c d =>
    have hix := fun h => index0 (c := c) (t := d) h
    by_cases hc : c = 35
    ·have e1 : ((c.toNat : Int) == 35) = true := byte_is (c := c) (n := 35) (by rw [hc]; rfl) (by decide)
     have m1 : (c.toNat : Int) = 35 := by simpa using e1
     have HH2 : Hid (o = if d.length = 3 ∨ d.length = 6 then (if d.all S.isHex then some ⟨6, 0, 35 :: S.twice d⟩ else none) else none) := Lib.hid (HH.out.trans (by rw [hc]; rfl))
     have hlc : (c :: d).length = d.length + 1 := List.length_cons
     rw [hlc] at zs
     clear HH hc hlc
     by_cases h36 : d.length = 3 ∨ d.length = 6
     ·have HH3 := Lib.hid (HH2.out.trans (if_pos h36))
      clear HH2
      have hb : ∃ b : Bool, b = decide (d.length = 3) := ⟨_, rfl⟩
      obtain ⟨b, hb⟩ := hb
      have HT : Hid (S.twice d = dup b d) := Lib.hid (by unfold S.twice dup; rw [hb]; by_cases h : d.length = 3 <;> simp [h])
      have he4 : (((d.length : Int) + 1) == 4) = b := by rw [hb]; rw [Bool.eq_iff_iff]; simp; omega
      have he4b : (((d.length + 1 : Nat) : Int) == 4) = b := by rw [← he4]; push_cast; rfl
      have hm : (b = true ∧ (d.length : Int) + 1 = 4) ∨ (b = false ∧ ¬ (d.length : Int) + 1 = 4 ∧ (d.length : Int) + 1 = 7) := by rw [hb]; rcases h36 with h | h <;> simp [h]
      have hd6 : d.length ≤ 6 := by omega
      clear hb h36
      rcases hm with ⟨rfl, hm1⟩ | ⟨rfl, hm1, hm2⟩
      ·have HH4 : Hid (o = if d.all S.isHex then some ⟨6, 0, 35 :: dup true d⟩ else none) := Lib.hid (by rw [HH3.out, HT.out])
       have HA0 : Hid (d.all S.isHex = (d.drop 0).all S.isHex) := Lib.hid (by rw [List.drop_zero])
       clear HH3 HT
       have hld : ((d.length + 1 : Nat) : Int) = (d.length : Int) + 1 := by omega
       go_wp2_with fail
       go_loopw [5, 6] (fun v5 v6 wr => ∃ k : Nat, v6 = .int .i64 ((1 + k : Nat) : Int) ∧ v5 = .string ⟨(35 :: dup true (d.take k)).toArray⟩ ∧ k ≤ d.length ∧ Hid (d.all S.isHex = (d.drop k).all S.isHex) ∧ Hid (w1 = wr)) (fun _ v6 _ => d.length + 1 - (intOf v6).toNat)
       case atStart => exact ⟨0, rfl, rfl, Nat.zero_le _, HA0, Lib.hid (by first | rfl | trivial)⟩
       case round =>
        obtain ⟨k, rfl, rfl, hk, HA, HW⟩ := hrel
        obtain rfl := HW.out
        clear HW HA0
        by_cases hkl : k < d.length
        ·obtain ⟨x, r, hd⟩ := drop_cons hkl
         have hcd : (c :: d).drop (1 + k) = x :: r := by rw [Nat.add_comm, List.drop_succ_cons]; exact hd
         have hsz : 1 + k < (⟨(c :: d).toArray⟩ : ByteArray).size := by rw [bytes_size, List.length_cons]; omega
         have hix2 := at_drop hcd hsz
         have hex1 : (⟨(c :: d).toArray⟩ : ByteArray).extract (1 + k) (1 + k + 1) = ⟨#[x]⟩ := by rw [slice_str (c :: d) (1 + k) (1 + k + 1) (by omega) (by rw [List.length_cons]; omega), hcd, Nat.add_sub_cancel_left]; rfl
         have hi1 : ((1 + k : Nat) : Int) < (d.length : Int) + 1 := by omega
         have hi2 : (1 : Int) + (k : Int) < (d.length : Int) + 1 := by omega
         have hi3 : (1 : Int) + (k : Int) + 1 ≤ (d.length : Int) + 1 := by omega
         have hi4 : (0 : Int) ≤ (1 : Int) + (k : Int) := by omega
         have hi5 : ((1 : Int) + (k : Int)).toNat = 1 + k := by omega
         have hi6 : ((1 : Int) + (k : Int) + 1).toNat = 1 + k + 1 := by omega
         have wi1 : IntKind.i64.wrap ((1 : Int) + (k : Int) + 1) = (1 : Int) + (k : Int) + 1 := IntWalk.i64_in _ (by omega)
         have htk : d.take (k + 1) = d.take k ++ [x] := by
          rw [List.take_add_one, List.getElem?_eq_getElem hkl]
          have := List.drop_eq_getElem_cons hkl
          rw [hd] at this
          injection this with h1 _
          rw [← h1]; rfl
         have hdl : (dup true (d.take k)).length ≤ 12 := by have := dup_len true (d.take k); rw [List.length_take] at this; omega
         have HT : Hid (dup true (d.take (k + 1)) = dup true (d.take k) ++ [x, x]) := Lib.hid (by rw [htk, dup_snoc]; rfl)
         have HA2 := Lib.hid (HA.out.trans (by rw [hd, List.all_cons]))
         have HDM := Lib.hid (drop_more hd)
         generalize dup true (d.take k) = ac at *
         have zac := bytes_size (35 :: ac)
         rw [List.length_cons] at zac
         have ap1 : (⟨(35 :: ac).toArray⟩ : ByteArray) ++ ⟨#[x]⟩ = ⟨(35 :: (ac ++ [x])).toArray⟩ := append_bytes (35 :: ac) [x]
         have zac2 := bytes_size (35 :: (ac ++ [x]))
         rw [List.length_cons, List.length_append] at zac2
         have ap2 : (⟨(35 :: (ac ++ [x])).toArray⟩ : ByteArray) ++ ⟨#[x]⟩ = ⟨(35 :: (ac ++ [x, x])).toArray⟩ := by rw [append_bytes (35 :: (ac ++ [x])) [x]]; simp
         clear htk hcd hd HA
         rcases hex_cases x with ⟨hx, q1, q2⟩ | ⟨hx, q1, q2, q3⟩ | ⟨hx, q1⟩ | ⟨hx, q1, q2⟩ | ⟨hx, q1⟩
         ·have HA3 : Hid (d.all S.isHex = (d.drop (k + 1)).all S.isHex) := Lib.hid (by rw [HA2.out, hx, HDM.out]; rfl)
          have e48 : (48 : Int) ≤ (x.toNat : Int) := by omega
          have d48 : decide ((48 : Int) ≤ (x.toNat : Int)) = true := decide_eq_true e48
          have e57 : (x.toNat : Int) ≤ 57 := by omega
          have d57 : decide ((x.toNat : Int) ≤ 57) = true := decide_eq_true e57
          clear HA2 hx
          go_wp2_with fail
          go_roundw
          case rel => exact ⟨k + 1, congrArg (Value.int IntKind.i64) (by push_cast; omega), (by first | rw [HT.out] | (rw [HT.out]; exact congrArg Value.string ap1) | (rw [HT.out]; exact congrArg Value.string ap2)), by omega, HA3, Lib.hid (by first | rfl | trivial)⟩
          case measure => simp [intOf]; omega
         ·have HA3 : Hid (d.all S.isHex = (d.drop (k + 1)).all S.isHex) := Lib.hid (by rw [HA2.out, hx, HDM.out]; rfl)
          have e48 : (48 : Int) ≤ (x.toNat : Int) := by omega
          have d48 : decide ((48 : Int) ≤ (x.toNat : Int)) = true := decide_eq_true e48
          have e57 : ¬ (x.toNat : Int) ≤ 57 := by omega
          have d57 : decide ((x.toNat : Int) ≤ 57) = false := decide_eq_false e57
          have e97 : (97 : Int) ≤ (x.toNat : Int) := by omega
          have d97 : decide ((97 : Int) ≤ (x.toNat : Int)) = true := decide_eq_true e97
          have e102 : (x.toNat : Int) ≤ 102 := by omega
          have d102 : decide ((x.toNat : Int) ≤ 102) = true := decide_eq_true e102
          clear HA2 hx
          go_wp2_with fail
          go_roundw
          case rel => exact ⟨k + 1, congrArg (Value.int IntKind.i64) (by push_cast; omega), (by first | rw [HT.out] | (rw [HT.out]; exact congrArg Value.string ap1) | (rw [HT.out]; exact congrArg Value.string ap2)), by omega, HA3, Lib.hid (by first | rfl | trivial)⟩
          case measure => simp [intOf]; omega
         ·have HO : Hid (o = none) := Lib.hid (by rw [HH4.out, HA2.out, hx]; rfl)
          have e48 : ¬ (48 : Int) ≤ (x.toNat : Int) := by omega
          have d48 : decide ((48 : Int) ≤ (x.toNat : Int)) = false := decide_eq_false e48
          have e97 : ¬ (97 : Int) ≤ (x.toNat : Int) := by omega
          have d97 : decide ((97 : Int) ≤ (x.toNat : Int)) = false := decide_eq_false e97
          clear HA2 hx HH4
          go_wp2_with fail
          have HXR := Lib.hid (blk4 HX.out (.int .i64 0) (.int .i64 0) (.string ⟨#[]⟩) (.bool false))
          have HUR := Lib.hid (below_four HU.out (Nat.le_refl _) (.int .i64 0) (.int .i64 0) (.string ⟨#[]⟩) (.bool false))
          generalize ((((w1.setCell ⟨w.heap.size, 0, none⟩ (.int .i64 0)).setCell ⟨w.heap.size, 1, none⟩ (.int .i64 0)).setCell ⟨w.heap.size, 2, none⟩ (.string ⟨#[]⟩)).setCell ⟨w.heap.size, 3, none⟩ (.bool false)) = WR at *
          obtain ⟨hcr, hfr⟩ := cells_of HXR.out
          have r0 : WR.cell? ⟨w.heap.size, 0, none⟩ = some (.int .i64 0) := hcr 0
          have r1 : WR.cell? ⟨w.heap.size, 1, none⟩ = some (.int .i64 0) := hcr 1
          have r2 : WR.cell? ⟨w.heap.size, 2, none⟩ = some (.string ⟨#[]⟩) := hcr 2
          have r3 : WR.cell? ⟨w.heap.size, 3, none⟩ = some (.bool false) := hcr 3
          clear hcr hfr
          (try simp only [Exit.inBlock, Exit.then])
          refine bodyPost_ret (v := rval ⟨0, 0, []⟩ false) (by simp [results, Tryz.results44, go_sem, r0, r1, r2, r3, rval, rcells]) rfl ⟨⟨0, 0, []⟩, _, rfl, HUR.out, Lib.hid (fun h => by cases h), Lib.hid (fun _ => HO.out)⟩
         ·have HO : Hid (o = none) := Lib.hid (by rw [HH4.out, HA2.out, hx]; rfl)
          have e48 : (48 : Int) ≤ (x.toNat : Int) := by omega
          have d48 : decide ((48 : Int) ≤ (x.toNat : Int)) = true := decide_eq_true e48
          have e57 : ¬ (x.toNat : Int) ≤ 57 := by omega
          have d57 : decide ((x.toNat : Int) ≤ 57) = false := decide_eq_false e57
          have e97 : ¬ (97 : Int) ≤ (x.toNat : Int) := by omega
          have d97 : decide ((97 : Int) ≤ (x.toNat : Int)) = false := decide_eq_false e97
          clear HA2 hx HH4
          go_wp2_with fail
          have HXR := Lib.hid (blk4 HX.out (.int .i64 0) (.int .i64 0) (.string ⟨#[]⟩) (.bool false))
          have HUR := Lib.hid (below_four HU.out (Nat.le_refl _) (.int .i64 0) (.int .i64 0) (.string ⟨#[]⟩) (.bool false))
          generalize ((((w1.setCell ⟨w.heap.size, 0, none⟩ (.int .i64 0)).setCell ⟨w.heap.size, 1, none⟩ (.int .i64 0)).setCell ⟨w.heap.size, 2, none⟩ (.string ⟨#[]⟩)).setCell ⟨w.heap.size, 3, none⟩ (.bool false)) = WR at *
          obtain ⟨hcr, hfr⟩ := cells_of HXR.out
          have r0 : WR.cell? ⟨w.heap.size, 0, none⟩ = some (.int .i64 0) := hcr 0
          have r1 : WR.cell? ⟨w.heap.size, 1, none⟩ = some (.int .i64 0) := hcr 1
          have r2 : WR.cell? ⟨w.heap.size, 2, none⟩ = some (.string ⟨#[]⟩) := hcr 2
          have r3 : WR.cell? ⟨w.heap.size, 3, none⟩ = some (.bool false) := hcr 3
          clear hcr hfr
          (try simp only [Exit.inBlock, Exit.then])
          refine bodyPost_ret (v := rval ⟨0, 0, []⟩ false) (by simp [results, Tryz.results44, go_sem, r0, r1, r2, r3, rval, rcells]) rfl ⟨⟨0, 0, []⟩, _, rfl, HUR.out, Lib.hid (fun h => by cases h), Lib.hid (fun _ => HO.out)⟩
         ·have HO : Hid (o = none) := Lib.hid (by rw [HH4.out, HA2.out, hx]; rfl)
          have e48 : (48 : Int) ≤ (x.toNat : Int) := by omega
          have d48 : decide ((48 : Int) ≤ (x.toNat : Int)) = true := decide_eq_true e48
          have e57 : ¬ (x.toNat : Int) ≤ 57 := by omega
          have d57 : decide ((x.toNat : Int) ≤ 57) = false := decide_eq_false e57
          have e97 : (97 : Int) ≤ (x.toNat : Int) := by omega
          have d97 : decide ((97 : Int) ≤ (x.toNat : Int)) = true := decide_eq_true e97
          have e102 : ¬ (x.toNat : Int) ≤ 102 := by omega
          have d102 : decide ((x.toNat : Int) ≤ 102) = false := decide_eq_false e102
          clear HA2 hx HH4
          go_wp2_with fail
          have HXR := Lib.hid (blk4 HX.out (.int .i64 0) (.int .i64 0) (.string ⟨#[]⟩) (.bool false))
          have HUR := Lib.hid (below_four HU.out (Nat.le_refl _) (.int .i64 0) (.int .i64 0) (.string ⟨#[]⟩) (.bool false))
          generalize ((((w1.setCell ⟨w.heap.size, 0, none⟩ (.int .i64 0)).setCell ⟨w.heap.size, 1, none⟩ (.int .i64 0)).setCell ⟨w.heap.size, 2, none⟩ (.string ⟨#[]⟩)).setCell ⟨w.heap.size, 3, none⟩ (.bool false)) = WR at *
          obtain ⟨hcr, hfr⟩ := cells_of HXR.out
          have r0 : WR.cell? ⟨w.heap.size, 0, none⟩ = some (.int .i64 0) := hcr 0
          have r1 : WR.cell? ⟨w.heap.size, 1, none⟩ = some (.int .i64 0) := hcr 1
          have r2 : WR.cell? ⟨w.heap.size, 2, none⟩ = some (.string ⟨#[]⟩) := hcr 2
          have r3 : WR.cell? ⟨w.heap.size, 3, none⟩ = some (.bool false) := hcr 3
          clear hcr hfr
          (try simp only [Exit.inBlock, Exit.then])
          refine bodyPost_ret (v := rval ⟨0, 0, []⟩ false) (by simp [results, Tryz.results44, go_sem, r0, r1, r2, r3, rval, rcells]) rfl ⟨⟨0, 0, []⟩, _, rfl, HUR.out, Lib.hid (fun h => by cases h), Lib.hid (fun _ => HO.out)⟩
        ·obtain rfl : k = d.length := by omega
         have HO : Hid (o = some ⟨6, 0, 35 :: dup true d⟩) := Lib.hid (by rw [HH4.out, HA.out, List.drop_length]; rfl)
         rw [List.take_length]
         generalize dup true d = dd at *
         have hi1 : ¬ ((1 + d.length : Nat) : Int) < (d.length : Int) + 1 := by omega
         have hi2 : ¬ (1 : Int) + (d.length : Int) < (d.length : Int) + 1 := by omega
         clear HA HH4
         go_wp2_with fail
         have HXR := Lib.hid (blk4 HX.out (.int .i64 6) (.int .i64 0) (.string ⟨(35 :: dd).toArray⟩) (.bool true))
         have HUR := Lib.hid (below_four HU.out (Nat.le_refl _) (.int .i64 6) (.int .i64 0) (.string ⟨(35 :: dd).toArray⟩) (.bool true))
         generalize ((((w1.setCell ⟨w.heap.size, 0, none⟩ (.int .i64 6)).setCell ⟨w.heap.size, 1, none⟩ (.int .i64 0)).setCell ⟨w.heap.size, 2, none⟩ (.string ⟨(35 :: dd).toArray⟩)).setCell ⟨w.heap.size, 3, none⟩ (.bool true)) = WR at *
         obtain ⟨hcr, hfr⟩ := cells_of HXR.out
         have r0 : WR.cell? ⟨w.heap.size, 0, none⟩ = some (.int .i64 6) := hcr 0
         have r1 : WR.cell? ⟨w.heap.size, 1, none⟩ = some (.int .i64 0) := hcr 1
         have r2 : WR.cell? ⟨w.heap.size, 2, none⟩ = some (.string ⟨(35 :: dd).toArray⟩) := hcr 2
         have r3 : WR.cell? ⟨w.heap.size, 3, none⟩ = some (.bool true) := hcr 3
         clear hcr hfr
         (try simp only [Exit.inBlock, Exit.then])
         refine bodyPost_ret (v := rval ⟨6, 0, 35 :: dd⟩ true) (by simp [results, Tryz.results44, go_sem, r0, r1, r2, r3, rval, rcells]) rfl ⟨⟨6, 0, 35 :: dd⟩, _, rfl, HUR.out, Lib.hid (fun _ => HO.out), Lib.hid (fun h => by cases h)⟩
      ·have HH4 : Hid (o = if d.all S.isHex then some ⟨6, 0, 35 :: dup false d⟩ else none) := Lib.hid (by rw [HH3.out, HT.out])
       have HA0 : Hid (d.all S.isHex = (d.drop 0).all S.isHex) := Lib.hid (by rw [List.drop_zero])
       clear HH3 HT
       have hld : ((d.length + 1 : Nat) : Int) = (d.length : Int) + 1 := by omega
       go_wp2_with fail
       go_loopw [5, 6] (fun v5 v6 wr => ∃ k : Nat, v6 = .int .i64 ((1 + k : Nat) : Int) ∧ v5 = .string ⟨(35 :: dup false (d.take k)).toArray⟩ ∧ k ≤ d.length ∧ Hid (d.all S.isHex = (d.drop k).all S.isHex) ∧ Hid (w1 = wr)) (fun _ v6 _ => d.length + 1 - (intOf v6).toNat)
       case atStart => exact ⟨0, rfl, rfl, Nat.zero_le _, HA0, Lib.hid (by first | rfl | trivial)⟩
       case round =>
        obtain ⟨k, rfl, rfl, hk, HA, HW⟩ := hrel
        obtain rfl := HW.out
        clear HW HA0
        by_cases hkl : k < d.length
        ·obtain ⟨x, r, hd⟩ := drop_cons hkl
         have hcd : (c :: d).drop (1 + k) = x :: r := by rw [Nat.add_comm, List.drop_succ_cons]; exact hd
         have hsz : 1 + k < (⟨(c :: d).toArray⟩ : ByteArray).size := by rw [bytes_size, List.length_cons]; omega
         have hix2 := at_drop hcd hsz
         have hex1 : (⟨(c :: d).toArray⟩ : ByteArray).extract (1 + k) (1 + k + 1) = ⟨#[x]⟩ := by rw [slice_str (c :: d) (1 + k) (1 + k + 1) (by omega) (by rw [List.length_cons]; omega), hcd, Nat.add_sub_cancel_left]; rfl
         have hi1 : ((1 + k : Nat) : Int) < (d.length : Int) + 1 := by omega
         have hi2 : (1 : Int) + (k : Int) < (d.length : Int) + 1 := by omega
         have hi3 : (1 : Int) + (k : Int) + 1 ≤ (d.length : Int) + 1 := by omega
         have hi4 : (0 : Int) ≤ (1 : Int) + (k : Int) := by omega
         have hi5 : ((1 : Int) + (k : Int)).toNat = 1 + k := by omega
         have hi6 : ((1 : Int) + (k : Int) + 1).toNat = 1 + k + 1 := by omega
         have wi1 : IntKind.i64.wrap ((1 : Int) + (k : Int) + 1) = (1 : Int) + (k : Int) + 1 := IntWalk.i64_in _ (by omega)
         have htk : d.take (k + 1) = d.take k ++ [x] := by
          rw [List.take_add_one, List.getElem?_eq_getElem hkl]
          have := List.drop_eq_getElem_cons hkl
          rw [hd] at this
          injection this with h1 _
          rw [← h1]; rfl
         have hdl : (dup false (d.take k)).length ≤ 12 := by have := dup_len false (d.take k); rw [List.length_take] at this; omega
         have HT : Hid (dup false (d.take (k + 1)) = dup false (d.take k) ++ [x]) := Lib.hid (by rw [htk, dup_snoc]; rfl)
         have HA2 := Lib.hid (HA.out.trans (by rw [hd, List.all_cons]))
         have HDM := Lib.hid (drop_more hd)
         generalize dup false (d.take k) = ac at *
         have zac := bytes_size (35 :: ac)
         rw [List.length_cons] at zac
         have ap1 : (⟨(35 :: ac).toArray⟩ : ByteArray) ++ ⟨#[x]⟩ = ⟨(35 :: (ac ++ [x])).toArray⟩ := append_bytes (35 :: ac) [x]
         clear htk hcd hd HA
         rcases hex_cases x with ⟨hx, q1, q2⟩ | ⟨hx, q1, q2, q3⟩ | ⟨hx, q1⟩ | ⟨hx, q1, q2⟩ | ⟨hx, q1⟩
         ·have HA3 : Hid (d.all S.isHex = (d.drop (k + 1)).all S.isHex) := Lib.hid (by rw [HA2.out, hx, HDM.out]; rfl)
          have e48 : (48 : Int) ≤ (x.toNat : Int) := by omega
          have d48 : decide ((48 : Int) ≤ (x.toNat : Int)) = true := decide_eq_true e48
          have e57 : (x.toNat : Int) ≤ 57 := by omega
          have d57 : decide ((x.toNat : Int) ≤ 57) = true := decide_eq_true e57
          clear HA2 hx
          go_wp2_with fail
          go_roundw
          case rel => exact ⟨k + 1, congrArg (Value.int IntKind.i64) (by push_cast; omega), (by first | rw [HT.out] | (rw [HT.out]; exact congrArg Value.string ap1) | (rw [HT.out]; exact congrArg Value.string ap2)), by omega, HA3, Lib.hid (by first | rfl | trivial)⟩
          case measure => simp [intOf]; omega
         ·have HA3 : Hid (d.all S.isHex = (d.drop (k + 1)).all S.isHex) := Lib.hid (by rw [HA2.out, hx, HDM.out]; rfl)
          have e48 : (48 : Int) ≤ (x.toNat : Int) := by omega
          have d48 : decide ((48 : Int) ≤ (x.toNat : Int)) = true := decide_eq_true e48
          have e57 : ¬ (x.toNat : Int) ≤ 57 := by omega
          have d57 : decide ((x.toNat : Int) ≤ 57) = false := decide_eq_false e57
          have e97 : (97 : Int) ≤ (x.toNat : Int) := by omega
          have d97 : decide ((97 : Int) ≤ (x.toNat : Int)) = true := decide_eq_true e97
          have e102 : (x.toNat : Int) ≤ 102 := by omega
          have d102 : decide ((x.toNat : Int) ≤ 102) = true := decide_eq_true e102
          clear HA2 hx
          go_wp2_with fail
          go_roundw
          case rel => exact ⟨k + 1, congrArg (Value.int IntKind.i64) (by push_cast; omega), (by first | rw [HT.out] | (rw [HT.out]; exact congrArg Value.string ap1) | (rw [HT.out]; exact congrArg Value.string ap2)), by omega, HA3, Lib.hid (by first | rfl | trivial)⟩
          case measure => simp [intOf]; omega
         ·have HO : Hid (o = none) := Lib.hid (by rw [HH4.out, HA2.out, hx]; rfl)
          have e48 : ¬ (48 : Int) ≤ (x.toNat : Int) := by omega
          have d48 : decide ((48 : Int) ≤ (x.toNat : Int)) = false := decide_eq_false e48
          have e97 : ¬ (97 : Int) ≤ (x.toNat : Int) := by omega
          have d97 : decide ((97 : Int) ≤ (x.toNat : Int)) = false := decide_eq_false e97
          clear HA2 hx HH4
          go_wp2_with fail
          have HXR := Lib.hid (blk4 HX.out (.int .i64 0) (.int .i64 0) (.string ⟨#[]⟩) (.bool false))
          have HUR := Lib.hid (below_four HU.out (Nat.le_refl _) (.int .i64 0) (.int .i64 0) (.string ⟨#[]⟩) (.bool false))
          generalize ((((w1.setCell ⟨w.heap.size, 0, none⟩ (.int .i64 0)).setCell ⟨w.heap.size, 1, none⟩ (.int .i64 0)).setCell ⟨w.heap.size, 2, none⟩ (.string ⟨#[]⟩)).setCell ⟨w.heap.size, 3, none⟩ (.bool false)) = WR at *
          obtain ⟨hcr, hfr⟩ := cells_of HXR.out
          have r0 : WR.cell? ⟨w.heap.size, 0, none⟩ = some (.int .i64 0) := hcr 0
          have r1 : WR.cell? ⟨w.heap.size, 1, none⟩ = some (.int .i64 0) := hcr 1
          have r2 : WR.cell? ⟨w.heap.size, 2, none⟩ = some (.string ⟨#[]⟩) := hcr 2
          have r3 : WR.cell? ⟨w.heap.size, 3, none⟩ = some (.bool false) := hcr 3
          clear hcr hfr
          (try simp only [Exit.inBlock, Exit.then])
          refine bodyPost_ret (v := rval ⟨0, 0, []⟩ false) (by simp [results, Tryz.results44, go_sem, r0, r1, r2, r3, rval, rcells]) rfl ⟨⟨0, 0, []⟩, _, rfl, HUR.out, Lib.hid (fun h => by cases h), Lib.hid (fun _ => HO.out)⟩
         ·have HO : Hid (o = none) := Lib.hid (by rw [HH4.out, HA2.out, hx]; rfl)
          have e48 : (48 : Int) ≤ (x.toNat : Int) := by omega
          have d48 : decide ((48 : Int) ≤ (x.toNat : Int)) = true := decide_eq_true e48
          have e57 : ¬ (x.toNat : Int) ≤ 57 := by omega
          have d57 : decide ((x.toNat : Int) ≤ 57) = false := decide_eq_false e57
          have e97 : ¬ (97 : Int) ≤ (x.toNat : Int) := by omega
          have d97 : decide ((97 : Int) ≤ (x.toNat : Int)) = false := decide_eq_false e97
          clear HA2 hx HH4
          go_wp2_with fail
          have HXR := Lib.hid (blk4 HX.out (.int .i64 0) (.int .i64 0) (.string ⟨#[]⟩) (.bool false))
          have HUR := Lib.hid (below_four HU.out (Nat.le_refl _) (.int .i64 0) (.int .i64 0) (.string ⟨#[]⟩) (.bool false))
          generalize ((((w1.setCell ⟨w.heap.size, 0, none⟩ (.int .i64 0)).setCell ⟨w.heap.size, 1, none⟩ (.int .i64 0)).setCell ⟨w.heap.size, 2, none⟩ (.string ⟨#[]⟩)).setCell ⟨w.heap.size, 3, none⟩ (.bool false)) = WR at *
          obtain ⟨hcr, hfr⟩ := cells_of HXR.out
          have r0 : WR.cell? ⟨w.heap.size, 0, none⟩ = some (.int .i64 0) := hcr 0
          have r1 : WR.cell? ⟨w.heap.size, 1, none⟩ = some (.int .i64 0) := hcr 1
          have r2 : WR.cell? ⟨w.heap.size, 2, none⟩ = some (.string ⟨#[]⟩) := hcr 2
          have r3 : WR.cell? ⟨w.heap.size, 3, none⟩ = some (.bool false) := hcr 3
          clear hcr hfr
          (try simp only [Exit.inBlock, Exit.then])
          refine bodyPost_ret (v := rval ⟨0, 0, []⟩ false) (by simp [results, Tryz.results44, go_sem, r0, r1, r2, r3, rval, rcells]) rfl ⟨⟨0, 0, []⟩, _, rfl, HUR.out, Lib.hid (fun h => by cases h), Lib.hid (fun _ => HO.out)⟩
         ·have HO : Hid (o = none) := Lib.hid (by rw [HH4.out, HA2.out, hx]; rfl)
          have e48 : (48 : Int) ≤ (x.toNat : Int) := by omega
          have d48 : decide ((48 : Int) ≤ (x.toNat : Int)) = true := decide_eq_true e48
          have e57 : ¬ (x.toNat : Int) ≤ 57 := by omega
          have d57 : decide ((x.toNat : Int) ≤ 57) = false := decide_eq_false e57
          have e97 : (97 : Int) ≤ (x.toNat : Int) := by omega
          have d97 : decide ((97 : Int) ≤ (x.toNat : Int)) = true := decide_eq_true e97
          have e102 : ¬ (x.toNat : Int) ≤ 102 := by omega
          have d102 : decide ((x.toNat : Int) ≤ 102) = false := decide_eq_false e102
          clear HA2 hx HH4
          go_wp2_with fail
          have HXR := Lib.hid (blk4 HX.out (.int .i64 0) (.int .i64 0) (.string ⟨#[]⟩) (.bool false))
          have HUR := Lib.hid (below_four HU.out (Nat.le_refl _) (.int .i64 0) (.int .i64 0) (.string ⟨#[]⟩) (.bool false))
          generalize ((((w1.setCell ⟨w.heap.size, 0, none⟩ (.int .i64 0)).setCell ⟨w.heap.size, 1, none⟩ (.int .i64 0)).setCell ⟨w.heap.size, 2, none⟩ (.string ⟨#[]⟩)).setCell ⟨w.heap.size, 3, none⟩ (.bool false)) = WR at *
          obtain ⟨hcr, hfr⟩ := cells_of HXR.out
          have r0 : WR.cell? ⟨w.heap.size, 0, none⟩ = some (.int .i64 0) := hcr 0
          have r1 : WR.cell? ⟨w.heap.size, 1, none⟩ = some (.int .i64 0) := hcr 1
          have r2 : WR.cell? ⟨w.heap.size, 2, none⟩ = some (.string ⟨#[]⟩) := hcr 2
          have r3 : WR.cell? ⟨w.heap.size, 3, none⟩ = some (.bool false) := hcr 3
          clear hcr hfr
          (try simp only [Exit.inBlock, Exit.then])
          refine bodyPost_ret (v := rval ⟨0, 0, []⟩ false) (by simp [results, Tryz.results44, go_sem, r0, r1, r2, r3, rval, rcells]) rfl ⟨⟨0, 0, []⟩, _, rfl, HUR.out, Lib.hid (fun h => by cases h), Lib.hid (fun _ => HO.out)⟩
        ·obtain rfl : k = d.length := by omega
         have HO : Hid (o = some ⟨6, 0, 35 :: dup false d⟩) := Lib.hid (by rw [HH4.out, HA.out, List.drop_length]; rfl)
         rw [List.take_length]
         generalize dup false d = dd at *
         have hi1 : ¬ ((1 + d.length : Nat) : Int) < (d.length : Int) + 1 := by omega
         have hi2 : ¬ (1 : Int) + (d.length : Int) < (d.length : Int) + 1 := by omega
         clear HA HH4
         go_wp2_with fail
         have HXR := Lib.hid (blk4 HX.out (.int .i64 6) (.int .i64 0) (.string ⟨(35 :: dd).toArray⟩) (.bool true))
         have HUR := Lib.hid (below_four HU.out (Nat.le_refl _) (.int .i64 6) (.int .i64 0) (.string ⟨(35 :: dd).toArray⟩) (.bool true))
         generalize ((((w1.setCell ⟨w.heap.size, 0, none⟩ (.int .i64 6)).setCell ⟨w.heap.size, 1, none⟩ (.int .i64 0)).setCell ⟨w.heap.size, 2, none⟩ (.string ⟨(35 :: dd).toArray⟩)).setCell ⟨w.heap.size, 3, none⟩ (.bool true)) = WR at *
         obtain ⟨hcr, hfr⟩ := cells_of HXR.out
         have r0 : WR.cell? ⟨w.heap.size, 0, none⟩ = some (.int .i64 6) := hcr 0
         have r1 : WR.cell? ⟨w.heap.size, 1, none⟩ = some (.int .i64 0) := hcr 1
         have r2 : WR.cell? ⟨w.heap.size, 2, none⟩ = some (.string ⟨(35 :: dd).toArray⟩) := hcr 2
         have r3 : WR.cell? ⟨w.heap.size, 3, none⟩ = some (.bool true) := hcr 3
         clear hcr hfr
         (try simp only [Exit.inBlock, Exit.then])
         refine bodyPost_ret (v := rval ⟨6, 0, 35 :: dd⟩ true) (by simp [results, Tryz.results44, go_sem, r0, r1, r2, r3, rval, rcells]) rfl ⟨⟨6, 0, 35 :: dd⟩, _, rfl, HUR.out, Lib.hid (fun _ => HO.out), Lib.hid (fun h => by cases h)⟩
     ·have HO := Lib.hid (HH2.out.trans (if_neg h36))
      have n1 : ¬ (d.length : Int) + 1 = 4 := by omega
      have n2 : ¬ (d.length : Int) + 1 = 7 := by omega
      have n3 : (((d.length : Int) + 1) == 4) = false := by rw [beq_eq_false_iff_ne]; exact n1
      have n4 : (((d.length : Int) + 1) == 7) = false := by rw [beq_eq_false_iff_ne]; exact n2
      have n5 : (((d.length : Int) + 1) != 4) = true := by simp; omega
      have n6 : (((d.length : Int) + 1) != 7) = true := by simp; omega
      have n7 : ¬ (d.length : Int) = 3 := by omega
      have n8 : ¬ (d.length : Int) = 6 := by omega
      have n9 : ¬ d.length = 3 := by omega
      have n10 : ¬ d.length = 6 := by omega
      clear HH2 h36
      go_wp2_with fail
      have HXR := Lib.hid (blk4 HX.out (.int .i64 0) (.int .i64 0) (.string ⟨#[]⟩) (.bool false))
      have HUR := Lib.hid (below_four HU.out (Nat.le_refl _) (.int .i64 0) (.int .i64 0) (.string ⟨#[]⟩) (.bool false))
      generalize ((((w1.setCell ⟨w.heap.size, 0, none⟩ (.int .i64 0)).setCell ⟨w.heap.size, 1, none⟩ (.int .i64 0)).setCell ⟨w.heap.size, 2, none⟩ (.string ⟨#[]⟩)).setCell ⟨w.heap.size, 3, none⟩ (.bool false)) = WR at *
      obtain ⟨hcr, hfr⟩ := cells_of HXR.out
      have r0 : WR.cell? ⟨w.heap.size, 0, none⟩ = some (.int .i64 0) := hcr 0
      have r1 : WR.cell? ⟨w.heap.size, 1, none⟩ = some (.int .i64 0) := hcr 1
      have r2 : WR.cell? ⟨w.heap.size, 2, none⟩ = some (.string ⟨#[]⟩) := hcr 2
      have r3 : WR.cell? ⟨w.heap.size, 3, none⟩ = some (.bool false) := hcr 3
      clear hcr hfr
      (try simp only [Exit.inBlock, Exit.then])
      refine bodyPost_ret (v := rval ⟨0, 0, []⟩ false) (by simp [results, Tryz.results44, go_sem, r0, r1, r2, r3, rval, rcells]) rfl ⟨⟨0, 0, []⟩, _, rfl, HUR.out, Lib.hid (fun h => by cases h), Lib.hid (fun _ => HO.out)⟩
    ·have e1 : ((c.toNat : Int) == 35) = false := byte_ne (c := c) (n := 35) hc (by decide)
     have m1 : ¬ (c.toNat : Int) = 35 := by simpa using e1
     have HO : Hid (o = none) := Lib.hid (HH.out.trans (by unfold S.rhash; split; (· rename_i h; exact absurd (List.cons.inj h).1 hc); (· rfl)))
     clear HH hc
     go_wp2_with fail
     have HXR := Lib.hid (blk4 HX.out (.int .i64 0) (.int .i64 0) (.string ⟨#[]⟩) (.bool false))
     have HUR := Lib.hid (below_four HU.out (Nat.le_refl _) (.int .i64 0) (.int .i64 0) (.string ⟨#[]⟩) (.bool false))
     generalize ((((w1.setCell ⟨w.heap.size, 0, none⟩ (.int .i64 0)).setCell ⟨w.heap.size, 1, none⟩ (.int .i64 0)).setCell ⟨w.heap.size, 2, none⟩ (.string ⟨#[]⟩)).setCell ⟨w.heap.size, 3, none⟩ (.bool false)) = WR at *
     obtain ⟨hcr, hfr⟩ := cells_of HXR.out
     have r0 : WR.cell? ⟨w.heap.size, 0, none⟩ = some (.int .i64 0) := hcr 0
     have r1 : WR.cell? ⟨w.heap.size, 1, none⟩ = some (.int .i64 0) := hcr 1
     have r2 : WR.cell? ⟨w.heap.size, 2, none⟩ = some (.string ⟨#[]⟩) := hcr 2
     have r3 : WR.cell? ⟨w.heap.size, 3, none⟩ = some (.bool false) := hcr 3
     clear hcr hfr
     (try simp only [Exit.inBlock, Exit.then])
     refine bodyPost_ret (v := rval ⟨0, 0, []⟩ false) (by simp [results, Tryz.results44, go_sem, r0, r1, r2, r3, rval, rcells]) rfl ⟨⟨0, 0, []⟩, _, rfl, HUR.out, Lib.hid (fun h => by cases h), Lib.hid (fun _ => HO.out)⟩
end V
end Go.Proofs.YtafkeolpadfjfaaGreatDoor
namespace Go.Proofs.YtafkeolpadfjfaaGreatDoor
open Go.RowKit
namespace V
open H Y
theorem rtab_len (nm : List UInt8) : (S.rtab nm).1.length ≤ 200 ∧ (S.rtab nm).2.length ≤ 200 := by
 unfold S.rtab
 cases h : S.tab.find? (fun r => r.1 == nm) with
 | none => exact ⟨by simp, by simp⟩
 | some r =>
  have hm := List.mem_of_find?_eq_some h
  have key : (S.tab.all fun r => decide ((S.jn r.2.2).length ≤ 200) && decide ((S.kindOf r.2.1).length ≤ 200)) = true := by decide +kernel
  have := List.all_eq_true.1 key r hm
  rw [Bool.and_eq_true] at this
  exact ⟨of_decide_eq_true this.1, of_decide_eq_true this.2⟩
set_option maxHeartbeats 16000000 in
set_option maxRecDepth 100000 in
theorem parse (nm s : List UInt8) (w : World) (hs : s.length ≤ 90000) :
  Calls Tryz.prog 21 #[.string ⟨nm.toArray⟩, .string ⟨s.toArray⟩] w (RvPost (S.rparse nm s) w) := by
 have QL := Lib.hid (fun W => rlower s W (by omega))
 have hll : (S.lower s).length = s.length := by unfold S.lower; rw [List.length_map]
 have QT := Lib.hid (fun W => rtrim (S.lower s) W (by omega))
 have htl := S.trim_len (S.lower s)
 have QB := Lib.hid (fun W => table nm W)
 obtain ⟨hW, hK⟩ := rtab_len nm
 have HM : Hid (S.rparse nm s = if (S.rtab nm).2 = [] then none else if (S.words ((S.rtab nm).1 ++ S.wGlob)).contains (S.trim (S.lower s)) then some ⟨1, 0, S.trim (S.lower s)⟩ else S.rkind (S.rtab nm).2 (S.trim (S.lower s))) := Lib.hid rfl
 generalize S.rparse nm s = o at *
 generalize S.rtab nm = tb at *
 obtain ⟨Wd, K⟩ := tb
 dsimp only at hW hK QB HM
 generalize S.trim (S.lower s) = t at *
 have htt : t.length ≤ 90000 := by omega
 have QO := Lib.hid (fun W => one t (Wd ++ S.wGlob) W (by rw [List.length_append]; have : S.wGlob.length = 16 := rfl; omega))
 have QC := Lib.hid (fun W => color t W htt)
 have QS := Lib.hid (fun a b W => size t a b W (by omega))
 have QN := Lib.hid (fun a b W => count t a b W (by omega))
 have hap : (⟨Wd.toArray⟩ : ByteArray) ++ ⟨#[32, 105, 110, 104, 101, 114, 105, 116, 32, 105, 110, 105, 116, 105, 97, 108]⟩ = ⟨(Wd ++ S.wGlob).toArray⟩ := append_bytes Wd S.wGlob
 have zW := bytes_size Wd
 generalize Wd ++ S.wGlob = WG at *
 generalize (S.words WG).contains t = B at *
 generalize S.lower s = ls at *
 clear htl hll
 go_enter Tryz.func21, Tryz.ntmps21
 go_upto_region 1 with fail
 have HX0 : Hid (Blk w.heap.size #[.int .i64 0, .int .i64 0, .string ⟨#[]⟩, .bool false] 44 (w.alloc (.cells #[.int .i64 0, .int .i64 0, .string ⟨#[]⟩, .bool false] 44))) := Lib.hid (Blk.new w _ _)
 have HU0 : Hid (Below w.heap.size w (w.alloc (.cells #[.int .i64 0, .int .i64 0, .string ⟨#[]⟩, .bool false] 44))) := Lib.hid ((Below.refl _ w).alloc (Nat.le_refl _) _)
 generalize (w.alloc (.cells #[.int .i64 0, .int .i64 0, .string ⟨#[]⟩, .bool false] 44)) = W0 at *
 go_wp2_with fail
 refine (QL.out _).mono ?_
 rintro e w1 ⟨rfl, hb⟩
 have HX := Lib.hid (HX0.out.below hb)
 have HU := Lib.hid (HU0.out.trans (hb.mono HU0.out.size))
 clear hb HX0 HU0 QL
 go_wp2_with fail
 refine (QT.out _).mono ?_
 rintro e w' ⟨rfl, rfl⟩
 go_wp2_with fail
 refine (QB.out _).mono ?_
 rintro e w' ⟨rfl, rfl⟩
 clear QT QB
 by_cases hK0 : K = []
 ·have HO : Hid (o = none) := Lib.hid (by rw [HM.out, if_pos hK0])
  have g0 : (K == []) = true := by simpa using hK0
  clear HM hK0 QO QC QS QN
  obtain ⟨hcx, hfx⟩ := cells_of HX.out
  have x0 : w1.cell? ⟨w.heap.size, 0, none⟩ = some (.int .i64 0) := hcx 0
  have x1 : w1.cell? ⟨w.heap.size, 1, none⟩ = some (.int .i64 0) := hcx 1
  have x2 : w1.cell? ⟨w.heap.size, 2, none⟩ = some (.string ⟨#[]⟩) := hcx 2
  have x3 : w1.cell? ⟨w.heap.size, 3, none⟩ = some (.bool false) := hcx 3
  have f0 : w1.frozen? ⟨w.heap.size, 0, none⟩ = false := hfx 0 (by show 0 < 4; omega)
  have f1 : w1.frozen? ⟨w.heap.size, 1, none⟩ = false := hfx 1 (by show 1 < 4; omega)
  have f2 : w1.frozen? ⟨w.heap.size, 2, none⟩ = false := hfx 2 (by show 2 < 4; omega)
  have f3 : w1.frozen? ⟨w.heap.size, 3, none⟩ = false := hfx 3 (by show 3 < 4; omega)
  clear hcx hfx
  go_wp2_with fail
  have HXR := Lib.hid (blk4 HX.out (.int .i64 0) (.int .i64 0) (.string ⟨#[]⟩) (.bool false))
  have HUR := Lib.hid (below_four HU.out (Nat.le_refl _) (.int .i64 0) (.int .i64 0) (.string ⟨#[]⟩) (.bool false))
  generalize ((((w1.setCell ⟨w.heap.size, 0, none⟩ (.int .i64 0)).setCell ⟨w.heap.size, 1, none⟩ (.int .i64 0)).setCell ⟨w.heap.size, 2, none⟩ (.string ⟨#[]⟩)).setCell ⟨w.heap.size, 3, none⟩ (.bool false)) = WR at *
  obtain ⟨hcr, hfr⟩ := cells_of HXR.out
  have r0 : WR.cell? ⟨w.heap.size, 0, none⟩ = some (.int .i64 0) := hcr 0
  have r1 : WR.cell? ⟨w.heap.size, 1, none⟩ = some (.int .i64 0) := hcr 1
  have r2 : WR.cell? ⟨w.heap.size, 2, none⟩ = some (.string ⟨#[]⟩) := hcr 2
  have r3 : WR.cell? ⟨w.heap.size, 3, none⟩ = some (.bool false) := hcr 3
  clear hcr hfr
  (try simp only [Exit.inBlock, Exit.then])
  refine bodyPost_ret (v := rval ⟨0, 0, []⟩ false) (by simp [results, Tryz.results21, go_sem, r0, r1, r2, r3, rval, rcells]) rfl ⟨⟨0, 0, []⟩, _, rfl, HUR.out, Lib.hid (fun h => by cases h), Lib.hid (fun _ => HO.out)⟩
 have g0 : (K == []) = false := by simpa using hK0
 have HM2 := Lib.hid (HM.out.trans (if_neg hK0))
 clear HM hK0
 go_wp2_with fail
 refine (QO.out _).mono ?_
 rintro e w2 ⟨rfl, hb⟩
 have HX2 := Lib.hid (HX.out.below hb)
 have HU2 := Lib.hid (HU.out.trans (hb.mono HU.out.size))
 clear hb HX HU QO
 have HX := HX2
 have HU := HU2
 clear HX2 HU2
 cases B with
 | true =>
  have HO : Hid (o = some ⟨1, 0, t⟩) := Lib.hid (HM2.out.trans (if_pos rfl))
  clear HM2 QC QS QN
  obtain ⟨hcx, hfx⟩ := cells_of HX.out
  have x0 : w2.cell? ⟨w.heap.size, 0, none⟩ = some (.int .i64 0) := hcx 0
  have x1 : w2.cell? ⟨w.heap.size, 1, none⟩ = some (.int .i64 0) := hcx 1
  have x2 : w2.cell? ⟨w.heap.size, 2, none⟩ = some (.string ⟨#[]⟩) := hcx 2
  have x3 : w2.cell? ⟨w.heap.size, 3, none⟩ = some (.bool false) := hcx 3
  have f0 : w2.frozen? ⟨w.heap.size, 0, none⟩ = false := hfx 0 (by show 0 < 4; omega)
  have f1 : w2.frozen? ⟨w.heap.size, 1, none⟩ = false := hfx 1 (by show 1 < 4; omega)
  have f2 : w2.frozen? ⟨w.heap.size, 2, none⟩ = false := hfx 2 (by show 2 < 4; omega)
  have f3 : w2.frozen? ⟨w.heap.size, 3, none⟩ = false := hfx 3 (by show 3 < 4; omega)
  clear hcx hfx
  go_wp2_with fail
  have HXR := Lib.hid (blk4 HX.out (.int .i64 1) (.int .i64 0) (.string ⟨(t).toArray⟩) (.bool true))
  have HUR := Lib.hid (below_four HU.out (Nat.le_refl _) (.int .i64 1) (.int .i64 0) (.string ⟨(t).toArray⟩) (.bool true))
  generalize ((((w2.setCell ⟨w.heap.size, 0, none⟩ (.int .i64 1)).setCell ⟨w.heap.size, 1, none⟩ (.int .i64 0)).setCell ⟨w.heap.size, 2, none⟩ (.string ⟨(t).toArray⟩)).setCell ⟨w.heap.size, 3, none⟩ (.bool true)) = WR at *
  obtain ⟨hcr, hfr⟩ := cells_of HXR.out
  have r0 : WR.cell? ⟨w.heap.size, 0, none⟩ = some (.int .i64 1) := hcr 0
  have r1 : WR.cell? ⟨w.heap.size, 1, none⟩ = some (.int .i64 0) := hcr 1
  have r2 : WR.cell? ⟨w.heap.size, 2, none⟩ = some (.string ⟨(t).toArray⟩) := hcr 2
  have r3 : WR.cell? ⟨w.heap.size, 3, none⟩ = some (.bool true) := hcr 3
  clear hcr hfr
  (try simp only [Exit.inBlock, Exit.then])
  refine bodyPost_ret (v := rval ⟨1, 0, t⟩ true) (by simp [results, Tryz.results21, go_sem, r0, r1, r2, r3, rval, rcells]) rfl ⟨⟨1, 0, t⟩, _, rfl, HUR.out, Lib.hid (fun _ => HO.out), Lib.hid (fun h => by cases h)⟩
 | false =>
  have HM3 : Hid (o = S.rkind K t) := Lib.hid (HM2.out.trans (if_neg Bool.false_ne_true))
  clear HM2
  by_cases hK1 : K = [99, 111, 108, 111, 114]
  ·have g1 : (K == [99, 111, 108, 111, 114]) = true := by simpa using hK1
   have HO : Hid (o = S.rcolor t) := Lib.hid (HM3.out.trans (by rw [hK1]; rfl))
   clear HM3 hK1
   go_wp2_with fail
   refine (QC.out _).mono ?_
   rintro e w3 ⟨⟨vk, vn, vw⟩, ok, rfl, hb, hok, hno⟩
   unfold rval rcells
   dsimp only
   have HX2 := Lib.hid (HX.out.below hb)
   have HU2 := Lib.hid (HU.out.trans (hb.mono HU.out.size))
   clear hb HX HU QC QS QN
   have HX := HX2
   have HU := HU2
   clear HX2 HU2
   obtain ⟨hcx, hfx⟩ := cells_of HX.out
   have x0 : w3.cell? ⟨w.heap.size, 0, none⟩ = some (.int .i64 0) := hcx 0
   have x1 : w3.cell? ⟨w.heap.size, 1, none⟩ = some (.int .i64 0) := hcx 1
   have x2 : w3.cell? ⟨w.heap.size, 2, none⟩ = some (.string ⟨#[]⟩) := hcx 2
   have x3 : w3.cell? ⟨w.heap.size, 3, none⟩ = some (.bool false) := hcx 3
   have f0 : w3.frozen? ⟨w.heap.size, 0, none⟩ = false := hfx 0 (by show 0 < 4; omega)
   have f1 : w3.frozen? ⟨w.heap.size, 1, none⟩ = false := hfx 1 (by show 1 < 4; omega)
   have f2 : w3.frozen? ⟨w.heap.size, 2, none⟩ = false := hfx 2 (by show 2 < 4; omega)
   have f3 : w3.frozen? ⟨w.heap.size, 3, none⟩ = false := hfx 3 (by show 3 < 4; omega)
   clear hcx hfx
   go_wp2_with fail
   have HXR := Lib.hid (blk4 HX.out (.int .i64 (vk : Nat)) (.int .i64 vn) (.string ⟨(vw).toArray⟩) (.bool ok))
   have HUR := Lib.hid (below_four HU.out (Nat.le_refl _) (.int .i64 (vk : Nat)) (.int .i64 vn) (.string ⟨(vw).toArray⟩) (.bool ok))
   generalize ((((w3.setCell ⟨w.heap.size, 0, none⟩ (.int .i64 (vk : Nat))).setCell ⟨w.heap.size, 1, none⟩ (.int .i64 vn)).setCell ⟨w.heap.size, 2, none⟩ (.string ⟨(vw).toArray⟩)).setCell ⟨w.heap.size, 3, none⟩ (.bool ok)) = WR at *
   obtain ⟨hcr, hfr⟩ := cells_of HXR.out
   have r0 : WR.cell? ⟨w.heap.size, 0, none⟩ = some (.int .i64 (vk : Nat)) := hcr 0
   have r1 : WR.cell? ⟨w.heap.size, 1, none⟩ = some (.int .i64 vn) := hcr 1
   have r2 : WR.cell? ⟨w.heap.size, 2, none⟩ = some (.string ⟨(vw).toArray⟩) := hcr 2
   have r3 : WR.cell? ⟨w.heap.size, 3, none⟩ = some (.bool ok) := hcr 3
   clear hcr hfr
   (try simp only [Exit.inBlock, Exit.then])
   refine bodyPost_ret (v := rval ⟨vk, vn, vw⟩ ok) (by simp [results, Tryz.results21, go_sem, r0, r1, r2, r3, rval, rcells]) rfl ⟨⟨vk, vn, vw⟩, _, rfl, HUR.out, Lib.hid (fun h => HO.out.trans (hok.out h)), Lib.hid (fun h => HO.out.trans (hno.out h))⟩
  have g1 : (K == [99, 111, 108, 111, 114]) = false := by simpa using hK1
  by_cases hK2 : K = [108, 101, 110, 103, 116, 104]
  ·have g2 : (K == [108, 101, 110, 103, 116, 104]) = true := by simpa using hK2
   have HO : Hid (o = S.rsize t false true) := Lib.hid (HM3.out.trans (by rw [hK2]; rfl))
   clear HM3 hK2 hK1
   go_wp2_with fail
   refine (QS.out false true _).mono ?_
   rintro e w3 ⟨⟨vk, vn, vw⟩, ok, rfl, hb, hok, hno⟩
   unfold rval rcells
   dsimp only
   have HX2 := Lib.hid (HX.out.below hb)
   have HU2 := Lib.hid (HU.out.trans (hb.mono HU.out.size))
   clear hb HX HU QC QS QN
   have HX := HX2
   have HU := HU2
   clear HX2 HU2
   obtain ⟨hcx, hfx⟩ := cells_of HX.out
   have x0 : w3.cell? ⟨w.heap.size, 0, none⟩ = some (.int .i64 0) := hcx 0
   have x1 : w3.cell? ⟨w.heap.size, 1, none⟩ = some (.int .i64 0) := hcx 1
   have x2 : w3.cell? ⟨w.heap.size, 2, none⟩ = some (.string ⟨#[]⟩) := hcx 2
   have x3 : w3.cell? ⟨w.heap.size, 3, none⟩ = some (.bool false) := hcx 3
   have f0 : w3.frozen? ⟨w.heap.size, 0, none⟩ = false := hfx 0 (by show 0 < 4; omega)
   have f1 : w3.frozen? ⟨w.heap.size, 1, none⟩ = false := hfx 1 (by show 1 < 4; omega)
   have f2 : w3.frozen? ⟨w.heap.size, 2, none⟩ = false := hfx 2 (by show 2 < 4; omega)
   have f3 : w3.frozen? ⟨w.heap.size, 3, none⟩ = false := hfx 3 (by show 3 < 4; omega)
   clear hcx hfx
   go_wp2_with fail
   have HXR := Lib.hid (blk4 HX.out (.int .i64 (vk : Nat)) (.int .i64 vn) (.string ⟨(vw).toArray⟩) (.bool ok))
   have HUR := Lib.hid (below_four HU.out (Nat.le_refl _) (.int .i64 (vk : Nat)) (.int .i64 vn) (.string ⟨(vw).toArray⟩) (.bool ok))
   generalize ((((w3.setCell ⟨w.heap.size, 0, none⟩ (.int .i64 (vk : Nat))).setCell ⟨w.heap.size, 1, none⟩ (.int .i64 vn)).setCell ⟨w.heap.size, 2, none⟩ (.string ⟨(vw).toArray⟩)).setCell ⟨w.heap.size, 3, none⟩ (.bool ok)) = WR at *
   obtain ⟨hcr, hfr⟩ := cells_of HXR.out
   have r0 : WR.cell? ⟨w.heap.size, 0, none⟩ = some (.int .i64 (vk : Nat)) := hcr 0
   have r1 : WR.cell? ⟨w.heap.size, 1, none⟩ = some (.int .i64 vn) := hcr 1
   have r2 : WR.cell? ⟨w.heap.size, 2, none⟩ = some (.string ⟨(vw).toArray⟩) := hcr 2
   have r3 : WR.cell? ⟨w.heap.size, 3, none⟩ = some (.bool ok) := hcr 3
   clear hcr hfr
   (try simp only [Exit.inBlock, Exit.then])
   refine bodyPost_ret (v := rval ⟨vk, vn, vw⟩ ok) (by simp [results, Tryz.results21, go_sem, r0, r1, r2, r3, rval, rcells]) rfl ⟨⟨vk, vn, vw⟩, _, rfl, HUR.out, Lib.hid (fun h => HO.out.trans (hok.out h)), Lib.hid (fun h => HO.out.trans (hno.out h))⟩
  have g2 : (K == [108, 101, 110, 103, 116, 104]) = false := by simpa using hK2
  by_cases hK3 : K = [112, 111, 115, 105, 116, 105, 118, 101]
  ·have g3 : (K == [112, 111, 115, 105, 116, 105, 118, 101]) = true := by simpa using hK3
   have HO : Hid (o = S.rsize t true true) := Lib.hid (HM3.out.trans (by rw [hK3]; rfl))
   clear HM3 hK3 hK1 hK2
   go_wp2_with fail
   refine (QS.out true true _).mono ?_
   rintro e w3 ⟨⟨vk, vn, vw⟩, ok, rfl, hb, hok, hno⟩
   unfold rval rcells
   dsimp only
   have HX2 := Lib.hid (HX.out.below hb)
   have HU2 := Lib.hid (HU.out.trans (hb.mono HU.out.size))
   clear hb HX HU QC QS QN
   have HX := HX2
   have HU := HU2
   clear HX2 HU2
   obtain ⟨hcx, hfx⟩ := cells_of HX.out
   have x0 : w3.cell? ⟨w.heap.size, 0, none⟩ = some (.int .i64 0) := hcx 0
   have x1 : w3.cell? ⟨w.heap.size, 1, none⟩ = some (.int .i64 0) := hcx 1
   have x2 : w3.cell? ⟨w.heap.size, 2, none⟩ = some (.string ⟨#[]⟩) := hcx 2
   have x3 : w3.cell? ⟨w.heap.size, 3, none⟩ = some (.bool false) := hcx 3
   have f0 : w3.frozen? ⟨w.heap.size, 0, none⟩ = false := hfx 0 (by show 0 < 4; omega)
   have f1 : w3.frozen? ⟨w.heap.size, 1, none⟩ = false := hfx 1 (by show 1 < 4; omega)
   have f2 : w3.frozen? ⟨w.heap.size, 2, none⟩ = false := hfx 2 (by show 2 < 4; omega)
   have f3 : w3.frozen? ⟨w.heap.size, 3, none⟩ = false := hfx 3 (by show 3 < 4; omega)
   clear hcx hfx
   go_wp2_with fail
   have HXR := Lib.hid (blk4 HX.out (.int .i64 (vk : Nat)) (.int .i64 vn) (.string ⟨(vw).toArray⟩) (.bool ok))
   have HUR := Lib.hid (below_four HU.out (Nat.le_refl _) (.int .i64 (vk : Nat)) (.int .i64 vn) (.string ⟨(vw).toArray⟩) (.bool ok))
   generalize ((((w3.setCell ⟨w.heap.size, 0, none⟩ (.int .i64 (vk : Nat))).setCell ⟨w.heap.size, 1, none⟩ (.int .i64 vn)).setCell ⟨w.heap.size, 2, none⟩ (.string ⟨(vw).toArray⟩)).setCell ⟨w.heap.size, 3, none⟩ (.bool ok)) = WR at *
   obtain ⟨hcr, hfr⟩ := cells_of HXR.out
   have r0 : WR.cell? ⟨w.heap.size, 0, none⟩ = some (.int .i64 (vk : Nat)) := hcr 0
   have r1 : WR.cell? ⟨w.heap.size, 1, none⟩ = some (.int .i64 vn) := hcr 1
   have r2 : WR.cell? ⟨w.heap.size, 2, none⟩ = some (.string ⟨(vw).toArray⟩) := hcr 2
   have r3 : WR.cell? ⟨w.heap.size, 3, none⟩ = some (.bool ok) := hcr 3
   clear hcr hfr
   (try simp only [Exit.inBlock, Exit.then])
   refine bodyPost_ret (v := rval ⟨vk, vn, vw⟩ ok) (by simp [results, Tryz.results21, go_sem, r0, r1, r2, r3, rval, rcells]) rfl ⟨⟨vk, vn, vw⟩, _, rfl, HUR.out, Lib.hid (fun h => HO.out.trans (hok.out h)), Lib.hid (fun h => HO.out.trans (hno.out h))⟩
  have g3 : (K == [112, 111, 115, 105, 116, 105, 118, 101]) = false := by simpa using hK3
  by_cases hK4 : K = [97, 110, 121]
  ·have g4 : (K == [97, 110, 121]) = true := by simpa using hK4
   have HO : Hid (o = S.rsize t true false) := Lib.hid (HM3.out.trans (by rw [hK4]; rfl))
   clear HM3 hK4 hK1 hK2 hK3
   go_wp2_with fail
   refine (QS.out true false _).mono ?_
   rintro e w3 ⟨⟨vk, vn, vw⟩, ok, rfl, hb, hok, hno⟩
   unfold rval rcells
   dsimp only
   have HX2 := Lib.hid (HX.out.below hb)
   have HU2 := Lib.hid (HU.out.trans (hb.mono HU.out.size))
   clear hb HX HU QC QS QN
   have HX := HX2
   have HU := HU2
   clear HX2 HU2
   obtain ⟨hcx, hfx⟩ := cells_of HX.out
   have x0 : w3.cell? ⟨w.heap.size, 0, none⟩ = some (.int .i64 0) := hcx 0
   have x1 : w3.cell? ⟨w.heap.size, 1, none⟩ = some (.int .i64 0) := hcx 1
   have x2 : w3.cell? ⟨w.heap.size, 2, none⟩ = some (.string ⟨#[]⟩) := hcx 2
   have x3 : w3.cell? ⟨w.heap.size, 3, none⟩ = some (.bool false) := hcx 3
   have f0 : w3.frozen? ⟨w.heap.size, 0, none⟩ = false := hfx 0 (by show 0 < 4; omega)
   have f1 : w3.frozen? ⟨w.heap.size, 1, none⟩ = false := hfx 1 (by show 1 < 4; omega)
   have f2 : w3.frozen? ⟨w.heap.size, 2, none⟩ = false := hfx 2 (by show 2 < 4; omega)
   have f3 : w3.frozen? ⟨w.heap.size, 3, none⟩ = false := hfx 3 (by show 3 < 4; omega)
   clear hcx hfx
   go_wp2_with fail
   have HXR := Lib.hid (blk4 HX.out (.int .i64 (vk : Nat)) (.int .i64 vn) (.string ⟨(vw).toArray⟩) (.bool ok))
   have HUR := Lib.hid (below_four HU.out (Nat.le_refl _) (.int .i64 (vk : Nat)) (.int .i64 vn) (.string ⟨(vw).toArray⟩) (.bool ok))
   generalize ((((w3.setCell ⟨w.heap.size, 0, none⟩ (.int .i64 (vk : Nat))).setCell ⟨w.heap.size, 1, none⟩ (.int .i64 vn)).setCell ⟨w.heap.size, 2, none⟩ (.string ⟨(vw).toArray⟩)).setCell ⟨w.heap.size, 3, none⟩ (.bool ok)) = WR at *
   obtain ⟨hcr, hfr⟩ := cells_of HXR.out
   have r0 : WR.cell? ⟨w.heap.size, 0, none⟩ = some (.int .i64 (vk : Nat)) := hcr 0
   have r1 : WR.cell? ⟨w.heap.size, 1, none⟩ = some (.int .i64 vn) := hcr 1
   have r2 : WR.cell? ⟨w.heap.size, 2, none⟩ = some (.string ⟨(vw).toArray⟩) := hcr 2
   have r3 : WR.cell? ⟨w.heap.size, 3, none⟩ = some (.bool ok) := hcr 3
   clear hcr hfr
   (try simp only [Exit.inBlock, Exit.then])
   refine bodyPost_ret (v := rval ⟨vk, vn, vw⟩ ok) (by simp [results, Tryz.results21, go_sem, r0, r1, r2, r3, rval, rcells]) rfl ⟨⟨vk, vn, vw⟩, _, rfl, HUR.out, Lib.hid (fun h => HO.out.trans (hok.out h)), Lib.hid (fun h => HO.out.trans (hno.out h))⟩
  have g4 : (K == [97, 110, 121]) = false := by simpa using hK4
  by_cases hK5 : K = [110, 117, 109, 98, 101, 114]
  ·have g5 : (K == [110, 117, 109, 98, 101, 114]) = true := by simpa using hK5
   have HO : Hid (o = S.rcount t true false) := Lib.hid (HM3.out.trans (by rw [hK5]; rfl))
   clear HM3 hK5 hK1 hK2 hK3 hK4
   go_wp2_with fail
   refine (QN.out true false _).mono ?_
   rintro e w3 ⟨⟨vk, vn, vw⟩, ok, rfl, hb, hok, hno⟩
   unfold rval rcells
   dsimp only
   have HX2 := Lib.hid (HX.out.below hb)
   have HU2 := Lib.hid (HU.out.trans (hb.mono HU.out.size))
   clear hb HX HU QC QS QN
   have HX := HX2
   have HU := HU2
   clear HX2 HU2
   obtain ⟨hcx, hfx⟩ := cells_of HX.out
   have x0 : w3.cell? ⟨w.heap.size, 0, none⟩ = some (.int .i64 0) := hcx 0
   have x1 : w3.cell? ⟨w.heap.size, 1, none⟩ = some (.int .i64 0) := hcx 1
   have x2 : w3.cell? ⟨w.heap.size, 2, none⟩ = some (.string ⟨#[]⟩) := hcx 2
   have x3 : w3.cell? ⟨w.heap.size, 3, none⟩ = some (.bool false) := hcx 3
   have f0 : w3.frozen? ⟨w.heap.size, 0, none⟩ = false := hfx 0 (by show 0 < 4; omega)
   have f1 : w3.frozen? ⟨w.heap.size, 1, none⟩ = false := hfx 1 (by show 1 < 4; omega)
   have f2 : w3.frozen? ⟨w.heap.size, 2, none⟩ = false := hfx 2 (by show 2 < 4; omega)
   have f3 : w3.frozen? ⟨w.heap.size, 3, none⟩ = false := hfx 3 (by show 3 < 4; omega)
   clear hcx hfx
   go_wp2_with fail
   have HXR := Lib.hid (blk4 HX.out (.int .i64 (vk : Nat)) (.int .i64 vn) (.string ⟨(vw).toArray⟩) (.bool ok))
   have HUR := Lib.hid (below_four HU.out (Nat.le_refl _) (.int .i64 (vk : Nat)) (.int .i64 vn) (.string ⟨(vw).toArray⟩) (.bool ok))
   generalize ((((w3.setCell ⟨w.heap.size, 0, none⟩ (.int .i64 (vk : Nat))).setCell ⟨w.heap.size, 1, none⟩ (.int .i64 vn)).setCell ⟨w.heap.size, 2, none⟩ (.string ⟨(vw).toArray⟩)).setCell ⟨w.heap.size, 3, none⟩ (.bool ok)) = WR at *
   obtain ⟨hcr, hfr⟩ := cells_of HXR.out
   have r0 : WR.cell? ⟨w.heap.size, 0, none⟩ = some (.int .i64 (vk : Nat)) := hcr 0
   have r1 : WR.cell? ⟨w.heap.size, 1, none⟩ = some (.int .i64 vn) := hcr 1
   have r2 : WR.cell? ⟨w.heap.size, 2, none⟩ = some (.string ⟨(vw).toArray⟩) := hcr 2
   have r3 : WR.cell? ⟨w.heap.size, 3, none⟩ = some (.bool ok) := hcr 3
   clear hcr hfr
   (try simp only [Exit.inBlock, Exit.then])
   refine bodyPost_ret (v := rval ⟨vk, vn, vw⟩ ok) (by simp [results, Tryz.results21, go_sem, r0, r1, r2, r3, rval, rcells]) rfl ⟨⟨vk, vn, vw⟩, _, rfl, HUR.out, Lib.hid (fun h => HO.out.trans (hok.out h)), Lib.hid (fun h => HO.out.trans (hno.out h))⟩
  have g5 : (K == [110, 117, 109, 98, 101, 114]) = false := by simpa using hK5
  by_cases hK6 : K = [105, 110, 116, 101, 103, 101, 114]
  ·have g6 : (K == [105, 110, 116, 101, 103, 101, 114]) = true := by simpa using hK6
   have HO : Hid (o = S.rcount t false true) := Lib.hid (HM3.out.trans (by rw [hK6]; rfl))
   clear HM3 hK6 hK1 hK2 hK3 hK4 hK5
   go_wp2_with fail
   refine (QN.out false true _).mono ?_
   rintro e w3 ⟨⟨vk, vn, vw⟩, ok, rfl, hb, hok, hno⟩
   unfold rval rcells
   dsimp only
   have HX2 := Lib.hid (HX.out.below hb)
   have HU2 := Lib.hid (HU.out.trans (hb.mono HU.out.size))
   clear hb HX HU QC QS QN
   have HX := HX2
   have HU := HU2
   clear HX2 HU2
   obtain ⟨hcx, hfx⟩ := cells_of HX.out
   have x0 : w3.cell? ⟨w.heap.size, 0, none⟩ = some (.int .i64 0) := hcx 0
   have x1 : w3.cell? ⟨w.heap.size, 1, none⟩ = some (.int .i64 0) := hcx 1
   have x2 : w3.cell? ⟨w.heap.size, 2, none⟩ = some (.string ⟨#[]⟩) := hcx 2
   have x3 : w3.cell? ⟨w.heap.size, 3, none⟩ = some (.bool false) := hcx 3
   have f0 : w3.frozen? ⟨w.heap.size, 0, none⟩ = false := hfx 0 (by show 0 < 4; omega)
   have f1 : w3.frozen? ⟨w.heap.size, 1, none⟩ = false := hfx 1 (by show 1 < 4; omega)
   have f2 : w3.frozen? ⟨w.heap.size, 2, none⟩ = false := hfx 2 (by show 2 < 4; omega)
   have f3 : w3.frozen? ⟨w.heap.size, 3, none⟩ = false := hfx 3 (by show 3 < 4; omega)
   clear hcx hfx
   go_wp2_with fail
   have HXR := Lib.hid (blk4 HX.out (.int .i64 (vk : Nat)) (.int .i64 vn) (.string ⟨(vw).toArray⟩) (.bool ok))
   have HUR := Lib.hid (below_four HU.out (Nat.le_refl _) (.int .i64 (vk : Nat)) (.int .i64 vn) (.string ⟨(vw).toArray⟩) (.bool ok))
   generalize ((((w3.setCell ⟨w.heap.size, 0, none⟩ (.int .i64 (vk : Nat))).setCell ⟨w.heap.size, 1, none⟩ (.int .i64 vn)).setCell ⟨w.heap.size, 2, none⟩ (.string ⟨(vw).toArray⟩)).setCell ⟨w.heap.size, 3, none⟩ (.bool ok)) = WR at *
   obtain ⟨hcr, hfr⟩ := cells_of HXR.out
   have r0 : WR.cell? ⟨w.heap.size, 0, none⟩ = some (.int .i64 (vk : Nat)) := hcr 0
   have r1 : WR.cell? ⟨w.heap.size, 1, none⟩ = some (.int .i64 vn) := hcr 1
   have r2 : WR.cell? ⟨w.heap.size, 2, none⟩ = some (.string ⟨(vw).toArray⟩) := hcr 2
   have r3 : WR.cell? ⟨w.heap.size, 3, none⟩ = some (.bool ok) := hcr 3
   clear hcr hfr
   (try simp only [Exit.inBlock, Exit.then])
   refine bodyPost_ret (v := rval ⟨vk, vn, vw⟩ ok) (by simp [results, Tryz.results21, go_sem, r0, r1, r2, r3, rval, rcells]) rfl ⟨⟨vk, vn, vw⟩, _, rfl, HUR.out, Lib.hid (fun h => HO.out.trans (hok.out h)), Lib.hid (fun h => HO.out.trans (hno.out h))⟩
  have g6 : (K == [105, 110, 116, 101, 103, 101, 114]) = false := by simpa using hK6
  by_cases hK7 : K = [108, 105, 110, 101]
  ·have g7 : (K == [108, 105, 110, 101]) = true := by simpa using hK7
   have HO : Hid (o = match S.rcount t true false with | some v => some v | none => S.rsize t true true) := Lib.hid (HM3.out.trans (by rw [hK7]; rfl))
   clear HM3 hK7 hK1 hK2 hK3 hK4 hK5 hK6
   go_wp2_with fail
   refine (QN.out true false _).mono ?_
   rintro e w3 ⟨⟨vk, vn, vw⟩, ok, rfl, hb, hok, hno⟩
   unfold rval rcells
   dsimp only
   have HX2 := Lib.hid ((HX.out.below hb).alloc (.cells #[.int .i64 (vk : Nat), .int .i64 vn, .string ⟨vw.toArray⟩, .bool ok] 44))
   have hsz3 := (HU.out.trans (hb.mono HU.out.size)).size
   have HU2 := Lib.hid ((HU.out.trans (hb.mono HU.out.size)).alloc hsz3 (.cells #[.int .i64 (vk : Nat), .int .i64 vn, .string ⟨vw.toArray⟩, .bool ok] 44))
   have HY := Lib.hid (Blk.new w3 #[.int .i64 (vk : Nat), .int .i64 vn, .string ⟨vw.toArray⟩, .bool ok] 44)
   clear hb HX HU QC QN
   have HX := HX2
   have HU := HU2
   clear HX2 HU2
   go_upto_region 22 with fail
   generalize (w3.alloc (.cells #[.int .i64 (vk : Nat), .int .i64 vn, .string ⟨vw.toArray⟩, .bool ok] 44)) = W4 at *
   generalize w3.heap.size = Y at *
   obtain ⟨hcy, hfy⟩ := cells_of HY.out
   have y0 : W4.cell? ⟨Y, 0, none⟩ = some (.int .i64 (vk : Nat)) := hcy 0
   have y1 : W4.cell? ⟨Y, 1, none⟩ = some (.int .i64 vn) := hcy 1
   have y2 : W4.cell? ⟨Y, 2, none⟩ = some (.string ⟨vw.toArray⟩) := hcy 2
   have y3 : W4.cell? ⟨Y, 3, none⟩ = some (.bool ok) := hcy 3
   clear hcy hfy HY
   cases ok with
   | true =>
    have HO2 : Hid (o = some ⟨vk, vn, vw⟩) := Lib.hid (by rw [HO.out, hok.out rfl])
    clear HO hok hno QS
    have HO := HO2
    clear HO2
    obtain ⟨hcx, hfx⟩ := cells_of HX.out
    have x0 : W4.cell? ⟨w.heap.size, 0, none⟩ = some (.int .i64 0) := hcx 0
    have x1 : W4.cell? ⟨w.heap.size, 1, none⟩ = some (.int .i64 0) := hcx 1
    have x2 : W4.cell? ⟨w.heap.size, 2, none⟩ = some (.string ⟨#[]⟩) := hcx 2
    have x3 : W4.cell? ⟨w.heap.size, 3, none⟩ = some (.bool false) := hcx 3
    have f0 : W4.frozen? ⟨w.heap.size, 0, none⟩ = false := hfx 0 (by show 0 < 4; omega)
    have f1 : W4.frozen? ⟨w.heap.size, 1, none⟩ = false := hfx 1 (by show 1 < 4; omega)
    have f2 : W4.frozen? ⟨w.heap.size, 2, none⟩ = false := hfx 2 (by show 2 < 4; omega)
    have f3 : W4.frozen? ⟨w.heap.size, 3, none⟩ = false := hfx 3 (by show 3 < 4; omega)
    clear hcx hfx
    go_wp2_with fail
    have HXR := Lib.hid (blk4 HX.out (.int .i64 (vk : Nat)) (.int .i64 vn) (.string ⟨(vw).toArray⟩) (.bool true))
    have HUR := Lib.hid (below_four HU.out (Nat.le_refl _) (.int .i64 (vk : Nat)) (.int .i64 vn) (.string ⟨(vw).toArray⟩) (.bool true))
    generalize ((((W4.setCell ⟨w.heap.size, 0, none⟩ (.int .i64 (vk : Nat))).setCell ⟨w.heap.size, 1, none⟩ (.int .i64 vn)).setCell ⟨w.heap.size, 2, none⟩ (.string ⟨(vw).toArray⟩)).setCell ⟨w.heap.size, 3, none⟩ (.bool true)) = WR at *
    obtain ⟨hcr, hfr⟩ := cells_of HXR.out
    have r0 : WR.cell? ⟨w.heap.size, 0, none⟩ = some (.int .i64 (vk : Nat)) := hcr 0
    have r1 : WR.cell? ⟨w.heap.size, 1, none⟩ = some (.int .i64 vn) := hcr 1
    have r2 : WR.cell? ⟨w.heap.size, 2, none⟩ = some (.string ⟨(vw).toArray⟩) := hcr 2
    have r3 : WR.cell? ⟨w.heap.size, 3, none⟩ = some (.bool true) := hcr 3
    clear hcr hfr
    (try simp only [Exit.inBlock, Exit.then])
    refine bodyPost_ret (v := rval ⟨vk, vn, vw⟩ true) (by simp [results, Tryz.results21, go_sem, r0, r1, r2, r3, rval, rcells]) rfl ⟨⟨vk, vn, vw⟩, _, rfl, HUR.out, Lib.hid (fun _ => HO.out), Lib.hid (fun h => by cases h)⟩
   | false =>
    have HO2 : Hid (o = S.rsize t true true) := Lib.hid (by rw [HO.out, hno.out rfl])
    clear HO hok hno
    have HO := HO2
    clear HO2
    go_wp2_with fail
    refine (QS.out true true _).mono ?_
    rintro e w5 ⟨⟨uk, un, uw⟩, ok, rfl, hb, hok, hno⟩
    unfold rval rcells
    dsimp only
    have HX2 := Lib.hid (HX.out.below hb)
    have HU2 := Lib.hid (HU.out.trans (hb.mono HU.out.size))
    clear hb HX HU QS y0 y1 y2 y3
    have HX := HX2
    have HU := HU2
    clear HX2 HU2
    obtain ⟨hcx, hfx⟩ := cells_of HX.out
    have x0 : w5.cell? ⟨w.heap.size, 0, none⟩ = some (.int .i64 0) := hcx 0
    have x1 : w5.cell? ⟨w.heap.size, 1, none⟩ = some (.int .i64 0) := hcx 1
    have x2 : w5.cell? ⟨w.heap.size, 2, none⟩ = some (.string ⟨#[]⟩) := hcx 2
    have x3 : w5.cell? ⟨w.heap.size, 3, none⟩ = some (.bool false) := hcx 3
    have f0 : w5.frozen? ⟨w.heap.size, 0, none⟩ = false := hfx 0 (by show 0 < 4; omega)
    have f1 : w5.frozen? ⟨w.heap.size, 1, none⟩ = false := hfx 1 (by show 1 < 4; omega)
    have f2 : w5.frozen? ⟨w.heap.size, 2, none⟩ = false := hfx 2 (by show 2 < 4; omega)
    have f3 : w5.frozen? ⟨w.heap.size, 3, none⟩ = false := hfx 3 (by show 3 < 4; omega)
    clear hcx hfx
    go_wp2_with fail
    have HXR := Lib.hid (blk4 HX.out (.int .i64 (uk : Nat)) (.int .i64 un) (.string ⟨(uw).toArray⟩) (.bool ok))
    have HUR := Lib.hid (below_four HU.out (Nat.le_refl _) (.int .i64 (uk : Nat)) (.int .i64 un) (.string ⟨(uw).toArray⟩) (.bool ok))
    generalize ((((w5.setCell ⟨w.heap.size, 0, none⟩ (.int .i64 (uk : Nat))).setCell ⟨w.heap.size, 1, none⟩ (.int .i64 un)).setCell ⟨w.heap.size, 2, none⟩ (.string ⟨(uw).toArray⟩)).setCell ⟨w.heap.size, 3, none⟩ (.bool ok)) = WR at *
    obtain ⟨hcr, hfr⟩ := cells_of HXR.out
    have r0 : WR.cell? ⟨w.heap.size, 0, none⟩ = some (.int .i64 (uk : Nat)) := hcr 0
    have r1 : WR.cell? ⟨w.heap.size, 1, none⟩ = some (.int .i64 un) := hcr 1
    have r2 : WR.cell? ⟨w.heap.size, 2, none⟩ = some (.string ⟨(uw).toArray⟩) := hcr 2
    have r3 : WR.cell? ⟨w.heap.size, 3, none⟩ = some (.bool ok) := hcr 3
    clear hcr hfr
    (try simp only [Exit.inBlock, Exit.then])
    refine bodyPost_ret (v := rval ⟨uk, un, uw⟩ ok) (by simp [results, Tryz.results21, go_sem, r0, r1, r2, r3, rval, rcells]) rfl ⟨⟨uk, un, uw⟩, _, rfl, HUR.out, Lib.hid (fun h => HO.out.trans (hok.out h)), Lib.hid (fun h => HO.out.trans (hno.out h))⟩
  have g7 : (K == [108, 105, 110, 101]) = false := by simpa using hK7
  have HO : Hid (o = none) := Lib.hid (HM3.out.trans (by unfold S.rkind; rw [if_neg (show ¬ K = S.kColor from hK1), if_neg (show ¬ K = S.kLength from hK2), if_neg (show ¬ K = S.kPositive from hK3), if_neg (show ¬ K = S.kAny from hK4), if_neg (show ¬ K = S.kNumber from hK5), if_neg (show ¬ K = S.kInteger from hK6), if_neg (show ¬ K = S.kLine from hK7)]))
  clear HM3 QC QS QN hK1 hK2 hK3 hK4 hK5 hK6 hK7
  obtain ⟨hcx, hfx⟩ := cells_of HX.out
  have x0 : w2.cell? ⟨w.heap.size, 0, none⟩ = some (.int .i64 0) := hcx 0
  have x1 : w2.cell? ⟨w.heap.size, 1, none⟩ = some (.int .i64 0) := hcx 1
  have x2 : w2.cell? ⟨w.heap.size, 2, none⟩ = some (.string ⟨#[]⟩) := hcx 2
  have x3 : w2.cell? ⟨w.heap.size, 3, none⟩ = some (.bool false) := hcx 3
  have f0 : w2.frozen? ⟨w.heap.size, 0, none⟩ = false := hfx 0 (by show 0 < 4; omega)
  have f1 : w2.frozen? ⟨w.heap.size, 1, none⟩ = false := hfx 1 (by show 1 < 4; omega)
  have f2 : w2.frozen? ⟨w.heap.size, 2, none⟩ = false := hfx 2 (by show 2 < 4; omega)
  have f3 : w2.frozen? ⟨w.heap.size, 3, none⟩ = false := hfx 3 (by show 3 < 4; omega)
  clear hcx hfx
  go_wp2_with fail
  have HXR := Lib.hid (blk4 HX.out (.int .i64 0) (.int .i64 0) (.string ⟨#[]⟩) (.bool false))
  have HUR := Lib.hid (below_four HU.out (Nat.le_refl _) (.int .i64 0) (.int .i64 0) (.string ⟨#[]⟩) (.bool false))
  generalize ((((w2.setCell ⟨w.heap.size, 0, none⟩ (.int .i64 0)).setCell ⟨w.heap.size, 1, none⟩ (.int .i64 0)).setCell ⟨w.heap.size, 2, none⟩ (.string ⟨#[]⟩)).setCell ⟨w.heap.size, 3, none⟩ (.bool false)) = WR at *
  obtain ⟨hcr, hfr⟩ := cells_of HXR.out
  have r0 : WR.cell? ⟨w.heap.size, 0, none⟩ = some (.int .i64 0) := hcr 0
  have r1 : WR.cell? ⟨w.heap.size, 1, none⟩ = some (.int .i64 0) := hcr 1
  have r2 : WR.cell? ⟨w.heap.size, 2, none⟩ = some (.string ⟨#[]⟩) := hcr 2
  have r3 : WR.cell? ⟨w.heap.size, 3, none⟩ = some (.bool false) := hcr 3
  clear hcr hfr
  (try simp only [Exit.inBlock, Exit.then])
  refine bodyPost_ret (v := rval ⟨0, 0, []⟩ false) (by simp [results, Tryz.results21, go_sem, r0, r1, r2, r3, rval, rcells]) rfl ⟨⟨0, 0, []⟩, _, rfl, HUR.out, Lib.hid (fun h => by cases h), Lib.hid (fun _ => HO.out)⟩
end V
end Go.Proofs.YtafkeolpadfjfaaGreatDoor
