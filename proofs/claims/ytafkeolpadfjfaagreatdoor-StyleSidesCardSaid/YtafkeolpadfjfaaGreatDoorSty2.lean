/- What decimal comes to. -/
import Derived.Test.YtafkeolpadfjfaaGreatDoorSty1
import Derived.OwnWalk
set_option linter.unusedVariables false
set_option linter.unusedSimpArgs false
namespace Go.Proofs.YtafkeolpadfjfaaGreatDoor
open Go.RowKit
namespace Y
open H

theorem cut_front (l : List UInt8) (k : Nat) (h : k ≤ l.length) : (⟨l.toArray⟩ : ByteArray).extract 0 k = ⟨(l.take k).toArray⟩ := by
  have := slice_str l 0 k (Nat.zero_le _) h; simpa using this
theorem cut_back (l : List UInt8) (k : Nat) (h : k ≤ l.length) : (⟨l.toArray⟩ : ByteArray).extract k l.length = ⟨(l.drop k).toArray⟩ := by
  have := slice_str l k l.length h (Nat.le_refl _)
  rw [this, List.take_of_length_le (by rw [List.length_drop]; omega)]

/-- What stands behind the sign: what the rest of decimal makes of it. -/
def decTail (sg : Int) (u : List UInt8) : Option (Int × List UInt8) :=
  if (u.takeWhile S.isDig).length < 1 ∨ 7 < (u.takeWhile S.isDig).length then none
  else match S.frac (S.natOf (u.takeWhile S.isDig) * 1000) (u.dropWhile S.isDig) with
    | none => none
    | some (n, r) => if n ≤ 1048576000 then some (sg * n, r) else none
theorem dec_tail {s u : List UInt8} {sg : Int} (h : S.signOf s = (sg, u)) : S.decimal s = decTail sg u := by
  unfold S.decimal decTail
  rw [h]
  rfl

theorem frac_len (n : Nat) (r : List UInt8) : ∀ m q, S.frac n r = some (m, q) → q.length ≤ r.length := by
  intro m q h
  unfold S.frac at h
  split at h
  · rename_i t
    split at h
    · cases h
    · simp only [Option.some.injEq, Prod.mk.injEq] at h
      rw [← h.2, ← S.drop_tw, List.length_drop, List.length_cons]; omega
  · simp only [Option.some.injEq, Prod.mk.injEq] at h
    rw [← h.2]; exact Nat.le_refl _

theorem frac_plain (n : Nat) {r : List UInt8} (h : r = [] ∨ ∃ c t, r = c :: t ∧ c ≠ 46) : S.frac n r = some (n, r) := by
  rcases h with rfl | ⟨c, t, rfl, hc⟩
  · rfl
  · unfold S.frac
    split
    · rename_i h; exact absurd (List.cons.inj h).1 hc
    · rfl

theorem index0 {c : UInt8} {t : List UInt8} (h : 0 < (⟨(c :: t).toArray⟩ : ByteArray).size) : (⟨(c :: t).toArray⟩ : ByteArray)[0] = c := at_drop (s := c :: t) (i := 0) (r := t) rfl h

set_option maxHeartbeats 8000000 in
set_option maxRecDepth 100000 in
theorem decimal (s : List UInt8) (w : World) (hs : s.length ≤ 100000) : Calls Tryz.prog 78 #[.string ⟨s.toArray⟩] w (DecPost s w) := by
  have hcs := sign_cases s
  obtain ⟨sg, u, hsg⟩ : ∃ sg u, S.signOf s = (sg, u) := ⟨_, _, rfl⟩
  have hlu : u.length ≤ s.length ∧ (sg = 1 ∨ sg = -1) := by
    rcases hcs with ⟨h, h2⟩ | ⟨t, h, h2⟩ | ⟨t, h, h2⟩ | ⟨c, t, h, _, _, h2⟩ <;> (rw [hsg] at h2; simp only [Prod.mk.injEq] at h2; obtain ⟨rfl, rfl⟩ := h2; rw [h]; simp)
  have HD := Lib.hid (dec_tail hsg)
  generalize hdS : S.decimal s = dS at HD
  have HDS := Lib.hid hdS
  -- the rest, behind the sign
  have QR := fun W => run u W (by omega)
  have hD := S.tw_dig u
  have hk := S.take_tw S.isDig u
  have hr := S.drop_tw S.isDig u
  have hkl := S.tw_le S.isDig u
  have zu := bytes_size u
  have zs := bytes_size s
  have zR := bytes_size (u.dropWhile S.isDig)
  have hRl : (u.dropWhile S.isDig).length ≤ u.length := by rw [← hr, List.length_drop]; omega
  have HT : Hid (decTail sg u = if (u.takeWhile S.isDig).length < 1 ∨ 7 < (u.takeWhile S.isDig).length then none
    else match S.frac (S.natOf (u.takeWhile S.isDig) * 1000) (u.dropWhile S.isDig) with
      | none => none
      | some (n, r) => if n ≤ 1048576000 then some (sg * n, r) else none) := Lib.hid rfl
  have hx1 := cut_front u (u.takeWhile S.isDig).length hkl
  have hx2 := cut_back u (u.takeWhile S.isDig).length hkl
  rw [hk] at hx1
  rw [hr] at hx2
  clear hk hr hdS
  generalize u.takeWhile S.isDig = D at *
  generalize u.dropWhile S.isDig = R at *
  have QA := fun (h1 : 1 ≤ D.length) (h7 : D.length ≤ 7) W => Tryz.strconv_Atoi_ok ⟨D.toArray⟩ (by rw [bytes_size]; omega) (S.natOf D : Int) (by rw [bytes_toList]; exact (atoi7 hD h1 h7).1) W
  have hDn := fun (h1 : 1 ≤ D.length) (h7 : D.length ≤ 7) => (atoi7 hD h1 h7).2
  have HQR := Lib.hid QR
  have HQA := Lib.hid QA
  have HDn := Lib.hid hDn
  have HCs := Lib.hid hcs
  clear QR QA hD hDn hcs
  obtain ⟨hlu1, hlu2⟩ := hlu
  have HLu := Lib.hid hlu1
  have HSg := Lib.hid hlu2
  clear hlu1 hlu2
  have HB : ∃ B : Bool, Hid ((B = true ∧ ∃ c t, s = c :: t ∧ ((c = 45 ∧ sg = -1) ∨ (c = 43 ∧ sg = 1)) ∧ u = t) ∨ (B = false ∧ u = s ∧ sg = 1 ∧ (s = [] ∨ ∃ c t, s = c :: t ∧ c ≠ 45 ∧ c ≠ 43))) := by
    rcases HCs.out with ⟨h, h2⟩ | ⟨t, h, h2⟩ | ⟨t, h, h2⟩ | ⟨c, t, h, h3, h4, h2⟩ <;> (rw [hsg] at h2; simp only [Prod.mk.injEq] at h2; obtain ⟨h5, h6⟩ := h2)
    · exact ⟨false, Lib.hid (Or.inr ⟨rfl, by rw [h6, h], h5, Or.inl h⟩)⟩
    · exact ⟨true, Lib.hid (Or.inl ⟨rfl, 45, t, h, Or.inl ⟨rfl, h5⟩, h6⟩)⟩
    · exact ⟨true, Lib.hid (Or.inl ⟨rfl, 43, t, h, Or.inr ⟨rfl, h5⟩, h6⟩)⟩
    · exact ⟨false, Lib.hid (Or.inr ⟨rfl, by rw [h6, h], h5, Or.inr ⟨c, t, h, h3, h4⟩⟩)⟩
  obtain ⟨B, HB⟩ := HB
  clear HCs hsg
  go_enter Tryz.func78, Tryz.ntmps78
  go_upto_region 2 with fail
  go_cut [22] (fun v22 wx => v22 = .bool B ∧ Hid (w = wx))
  case first =>
    rcases HB.out with ⟨rfl, c, t, rfl, hc, rfl⟩ | ⟨rfl, rfl, rfl, rfl | ⟨c, t, rfl, hc1, hc2⟩⟩
    · have hix := fun h => index0 (c := c) (t := u) h
      rcases hc with ⟨hc, _⟩ | ⟨hc, _⟩
      · have e1 := byte_ne (c := c) (n := 43) (by rw [hc]; decide) (by decide)
        have e2 := byte_is (c := c) (n := 45) (by rw [hc]; rfl) (by decide)
        have n1 : ¬ (c.toNat : Int) = 43 := by simpa using e1
        have n2 : (c.toNat : Int) = 45 := by simpa using e2
        clear hc
        go_wp2_with fail
        go_meet
        exact ⟨rfl, Lib.hid (by first | rfl | trivial)⟩
      · have e1 := byte_is (c := c) (n := 43) (by rw [hc]; rfl) (by decide)
        have n1 : (c.toNat : Int) = 43 := by simpa using e1
        clear hc
        go_wp2_with fail
        go_meet
        exact ⟨rfl, Lib.hid (by first | rfl | trivial)⟩
    · go_wp2_with fail
      go_meet
      exact ⟨rfl, Lib.hid (by first | rfl | trivial)⟩
    · have hix := fun h => index0 (c := c) (t := t) h
      have e1 := byte_ne (c := c) (n := 43) hc2 (by decide)
      have e2 := byte_ne (c := c) (n := 45) hc1 (by decide)
      have n1 : ¬ (c.toNat : Int) = 43 := by simpa using e1
      have n2 : ¬ (c.toNat : Int) = 45 := by simpa using e2
      clear hc1 hc2
      go_wp2_with fail
      go_meet
      exact ⟨by simp [n1, n2], Lib.hid (by first | rfl | trivial)⟩
  case rest =>
    obtain ⟨rfl, HW⟩ := hcut
    obtain rfl := HW.out
    clear HW
    go_upto_if 22 with fail
    go_cut [0, 5] (fun v0 v5 wx => v0 = .string ⟨u.toArray⟩ ∧ v5 = .int .i64 sg ∧ Hid (w = wx))
    case first =>
      rcases HB.out with ⟨rfl, c, t, rfl, hc, rfl⟩ | ⟨rfl, rfl, rfl, _⟩
      · have hix := fun h => index0 (c := c) (t := u) h
        have hx := cut_back (c :: u) 1 (by simp)
        simp only [List.length_cons, List.drop_succ_cons, List.drop_zero] at hx
        rcases hc with ⟨hc, rfl⟩ | ⟨hc, rfl⟩
        · have e2 := byte_is (c := c) (n := 45) (by rw [hc]; rfl) (by decide)
          have n2 : (c.toNat : Int) = 45 := by simpa using e2
          clear hc
          go_wp2_with fail
          go_meet
          exact ⟨by first | rfl | (rw [hx]), rfl, Lib.hid (by first | rfl | trivial)⟩
        · have e2 := byte_ne (c := c) (n := 45) (by rw [hc]; decide) (by decide)
          have n2 : ¬ (c.toNat : Int) = 45 := by simpa using e2
          clear hc
          go_wp2_with fail
          go_meet
          exact ⟨by first | rfl | (rw [hx]), rfl, Lib.hid (by first | rfl | trivial)⟩
      · go_wp2_with fail
        go_meet
        exact ⟨rfl, rfl, Lib.hid (by first | rfl | trivial)⟩
    case rest =>
      obtain ⟨rfl, rfl, HW⟩ := hcut
      obtain rfl := HW.out
      clear HW HB
      go_wp2_with fail
      refine (HQR.out _).mono ?_
      rintro e w' ⟨rfl, rfl⟩
      rcases (by omega : D.length < 1 ∨ 7 < D.length ∨ (1 ≤ D.length ∧ D.length ≤ 7)) with h1 | h7 | ⟨h1, h7⟩
      · have e1 : (D.length : Int) < 1 := by omega
        have f1 : decide ((D.length : Int) < 1) = true := decide_eq_true e1
        have HN : Hid (dS = none) := Lib.hid (by rw [HD.out, HT.out, if_pos (Or.inl h1)])
        clear h1
        go_wp2_with fail
        go_ret3
        exact ⟨0, [], false, rfl, Below.refl _ _, Lib.hid (fun h => by cases h), Lib.hid (fun _ => HDS.out.trans HN.out), by simp⟩
      · have e1 : ¬ (D.length : Int) < 1 := by omega
        have f1 : decide ((D.length : Int) < 1) = false := decide_eq_false e1
        have e2 : (7 : Int) < (D.length : Int) := by omega
        have f2 : decide ((7 : Int) < (D.length : Int)) = true := decide_eq_true e2
        have HN : Hid (dS = none) := Lib.hid (by rw [HD.out, HT.out, if_pos (Or.inr h7)])
        clear h7
        go_wp2_with fail
        go_ret3
        exact ⟨0, [], false, rfl, Below.refl _ _, Lib.hid (fun h => by cases h), Lib.hid (fun _ => HDS.out.trans HN.out), by simp⟩
      · have e1 : ¬ (D.length : Int) < 1 := by omega
        have f1 : decide ((D.length : Int) < 1) = false := decide_eq_false e1
        have e2 : ¬ (7 : Int) < (D.length : Int) := by omega
        have f2 : decide ((7 : Int) < (D.length : Int)) = false := decide_eq_false e2
        have HN : Hid (dS = match S.frac (S.natOf D * 1000) R with
          | none => none
          | some (n, r) => if n ≤ 1048576000 then some (sg * n, r) else none) := Lib.hid (by rw [HD.out, HT.out, if_neg (by omega)])
        have QAt := Lib.hid (HQA.out h1 h7)
        have hm := HDn.out h1 h7
        generalize S.natOf D = m at *
        have hDu : (D.length : Int) ≤ (u.length : Int) := by omega
        have hD0 : (0 : Int) ≤ (D.length : Int) := by omega
        clear HD HT HQA HDn h1 h7
        go_wp2_with fail
        refine (QAt.out _).mono ?_
        rintro e w2 ⟨rfl, hw2⟩
        have hB2 : Below w.heap.size w w2 := by
          rcases hw2 with rfl | ⟨t, rfl⟩
          · exact Below.refl _ _
          · exact Lib.bytesWorld_below _ _ _
        have HB2 := Lib.hid hB2
        clear hw2 hB2 QAt
        have hm1 : (m : Int) * 1000 ≤ 9999999000 := by omega
        have hm0 : (0 : Int) ≤ (m : Int) * 1000 := by omega
        have hRc : (R = [] ∨ ∃ c t, R = c :: t ∧ c ≠ 46) ∨ ∃ c t, R = c :: t ∧ c = 46 := by
          cases R with
          | nil => exact Or.inl (Or.inl rfl)
          | cons c t =>
            by_cases h : c = 46
            · exact Or.inr ⟨c, t, rfl, h⟩
            · exact Or.inl (Or.inr ⟨c, t, rfl, h⟩)
        obtain ⟨B2, HB2c⟩ : ∃ B2 : Bool, Hid ((B2 = false ∧ (R = [] ∨ ∃ c t, R = c :: t ∧ c ≠ 46)) ∨ (B2 = true ∧ ∃ c t, R = c :: t ∧ c = 46)) := by
          rcases hRc with h | h
          · exact ⟨false, Lib.hid (Or.inl ⟨rfl, h⟩)⟩
          · exact ⟨true, Lib.hid (Or.inr ⟨rfl, h⟩)⟩
        clear hRc
        go_upto_region 12 with fail
        go_cut [54] (fun v54 wx => v54 = .bool B2 ∧ Hid (w2 = wx))
        case first =>
          rcases HB2c.out with ⟨rfl, rfl | ⟨c, t, rfl, hc⟩⟩ | ⟨rfl, c, t, rfl, hc⟩
          · go_wp2_with fail
            go_meet
            exact ⟨rfl, Lib.hid (by first | rfl | trivial)⟩
          · have hix := fun h => index0 (c := c) (t := t) h
            have e3 : ((c.toNat : Int) == 46) = false := byte_ne (c := c) (n := 46) hc (by decide)
            have n3 : ¬ (c.toNat : Int) = 46 := by simpa using e3
            clear hc
            go_wp2_with fail
            go_meet
            exact ⟨by first | rfl | simp [n3], Lib.hid (by first | rfl | trivial)⟩
          · have hix := fun h => index0 (c := c) (t := t) h
            have e3 : ((c.toNat : Int) == 46) = true := byte_is (c := c) (n := 46) (by rw [hc]; rfl) (by decide)
            have n3 : (c.toNat : Int) = 46 := by simpa using e3
            clear hc
            go_wp2_with fail
            go_meet
            exact ⟨by first | rfl | simp [n3], Lib.hid (by first | rfl | trivial)⟩
        case rest =>
          obtain ⟨rfl, HW⟩ := hcut
          obtain rfl := HW.out
          clear HW
          go_upto_if 54 with fail
          go_cut [0, 7] (fun v0 v7 wx => ∃ (n1 : Nat) (R1 : List UInt8), v0 = .string ⟨R1.toArray⟩ ∧ v7 = .int .i64 n1 ∧ Hid (S.frac (m * 1000) R = some (n1, R1)) ∧ n1 ≤ 10000000000 ∧ R1.length ≤ s.length ∧ Hid (Below w.heap.size w wx))
          case first =>
            rcases HB2c.out with ⟨rfl, hR⟩ | ⟨rfl, c, t, rfl, hc⟩
            · have hRl2 : R.length ≤ s.length := by have := HLu.out; omega
              have HFr := Lib.hid (frac_plain (m * 1000) hR)
              clear hR
              go_wp2_with fail
              go_meet
              exact ⟨m * 1000, R, rfl, congrArg (Value.int IntKind.i64) (by omega), HFr, by omega, hRl2, HB2⟩
            · have htl : t.length + 1 ≤ s.length := by have := HLu.out; simp only [List.length_cons] at hRl; omega
              have QR2 := Lib.hid (fun W => run t W (by omega))
              have hD2 := S.tw_dig t
              have hkl2 := S.tw_le S.isDig t
              have hxa := cut_back (c :: t) 1 (by simp)
              have hxd := cut_back (c :: t) (1 + (t.takeWhile S.isDig).length) (by simp; omega)
              have hdr : (c :: t).drop (1 + (t.takeWhile S.isDig).length) = t.dropWhile S.isDig := by rw [Nat.add_comm, List.drop_succ_cons, S.drop_tw]
              have hxb := slice_str (c :: t) 1 (1 + (t.takeWhile S.isDig).length) (by omega) (by simp; omega)
              have htk : ((c :: t).drop 1).take (1 + (t.takeWhile S.isDig).length - 1) = t.takeWhile S.isDig := by rw [Nat.add_sub_cancel_left]; exact S.take_tw S.isDig t
              have HFr : Hid (S.frac (m * 1000) (c :: t) = if t.takeWhile S.isDig = [] then none else some (m * 1000 + S.natOf ((t.takeWhile S.isDig ++ [48, 48]).take 3), t.dropWhile S.isDig)) := Lib.hid (by rw [hc]; rfl)
              have ht2 : (t.dropWhile S.isDig).length ≤ s.length := by rw [← S.drop_tw, List.length_drop]; omega
              rw [hdr] at hxd
              rw [htk] at hxb
              simp only [List.length_cons, List.drop_succ_cons, List.drop_zero] at hxa hxd
              clear hdr htk hc
              generalize t.takeWhile S.isDig = F at *
              generalize t.dropWhile S.isDig = t2 at *
              have zF := bytes_size F
              by_cases hF : F = []
              · have HN3 : Hid (dS = none) := Lib.hid (by rw [HN.out, HFr.out, if_pos hF])
                subst hF
                clear HFr hxb hxd
                go_wp2_with fail
                refine (QR2.out _).mono ?_
                rintro e w' ⟨rfl, rfl⟩
                go_wp2_with fail
                go_ret3
                exact ⟨0, [], false, rfl, HB2.out, Lib.hid (fun h => by cases h), Lib.hid (fun _ => HDS.out.trans HN3.out), by simp⟩
              · have hF1 : 1 ≤ F.length := List.length_pos_iff.2 hF
                have HFr2 := Lib.hid (HFr.out.trans (if_neg hF))
                have hP := S.bounds_pad F hD2
                have hPl := S.pad_len hF
                have hxc : ((⟨F.toArray⟩ : ByteArray) ++ ⟨#[48, 48]⟩).extract 0 3 = ⟨((F ++ [48, 48]).take 3).toArray⟩ := by
                  have e := append_bytes F [48, 48]
                  rw [show (⟨#[48, 48]⟩ : ByteArray) = ⟨[48, 48].toArray⟩ from rfl, e]
                  exact cut_front _ 3 (by rw [List.length_append]; simp; omega)
                generalize (F ++ [48, 48]).take 3 = P at *
                have hPn : S.natOf P ≤ 999 := by
                  have := S.natOf_lt hP
                  rw [hPl] at this
                  omega
                have QA2 := Lib.hid (fun W => Tryz.strconv_Atoi_ok ⟨P.toArray⟩ (by rw [bytes_size, hPl]; omega) (S.natOf P : Int) (by rw [bytes_toList]; exact (atoi7 hP (by omega) (by omega)).1) W)
                generalize S.natOf P = pn at *
                have hkI : (1 : Int) ≤ (F.length : Int) := by omega
                have hkT : (F.length : Int) ≤ (t.length : Int) := by omega
                have hk0 : ((F.length : Int) == 0) = false := by rw [beq_eq_false_iff_ne]; omega
                have nk0 : ¬ (F.length : Int) = 0 := by omega
                have nk1 : ¬ F.length = 0 := by omega
                have htb : (t.length : Int) ≤ 100000 := by omega
                clear HFr hP hPl hF hF1
                go_wp2_with fail
                refine (QR2.out _).mono ?_
                rintro e w' ⟨rfl, rfl⟩
                go_wp2_with fail
                refine (QA2.out _).mono ?_
                rintro e w3 ⟨rfl, hw3⟩
                have hB3 : Below w2.heap.size w2 w3 := by
                  rcases hw3 with rfl | ⟨t, rfl⟩
                  · exact Below.refl _ _
                  · exact Lib.bytesWorld_below _ _ _
                have HB3 := Lib.hid (HB2.out.trans (hB3.mono HB2.out.size))
                clear hw3 hB3 QA2 QR2
                go_wp2_with fail
                go_meet
                exact ⟨m * 1000 + pn, t2, congrArg Value.string hxd, congrArg (Value.int IntKind.i64) (by omega), HFr2, by omega, ht2, HB3⟩
          case rest =>
            obtain ⟨n1, R1, rfl, rfl, HFr, hn1, hR1, HB⟩ := hcut
            have HN2 : Hid (dS = if n1 ≤ 1048576000 then some (sg * n1, R1) else none) := Lib.hid (by rw [HN.out, HFr.out])
            clear HN HFr HB2c HB2
            rcases HSg.out with rfl | rfl
            all_goals
              by_cases hle : n1 ≤ 1048576000
              · have e5 : (n1 : Int) ≤ 1048576000 := by omega
                have f5 : decide ((n1 : Int) ≤ 1048576000) = true := decide_eq_true e5
                have HN3 := Lib.hid (HDS.out.trans (HN2.out.trans (if_pos hle)))
                clear HN2 HDS
                go_wp2_with fail
                go_ret3
                exact ⟨_, R1, true, rfl, HB.out, Lib.hid (fun _ => ⟨HN3.out.trans (by simp), by omega, by omega⟩), Lib.hid (fun h => by cases h), hR1⟩
              · have e5 : ¬ (n1 : Int) ≤ 1048576000 := by omega
                have f5 : decide ((n1 : Int) ≤ 1048576000) = false := decide_eq_false e5
                have HN3 := Lib.hid (HDS.out.trans (HN2.out.trans (if_neg hle)))
                clear HN2 HDS
                go_wp2_with fail
                go_ret3
                exact ⟨_, R1, false, rfl, HB.out, Lib.hid (fun h => by cases h), Lib.hid (fun _ => HN3.out), hR1⟩

end Y
end Go.Proofs.YtafkeolpadfjfaaGreatDoor
