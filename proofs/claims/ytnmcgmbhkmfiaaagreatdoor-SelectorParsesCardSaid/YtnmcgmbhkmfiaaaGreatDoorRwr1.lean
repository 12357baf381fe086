/- What the writing functions of the reference come to: number, quote. -/
import Derived.Test.YtnmcgmbhkmfiaaaGreatDoorRsl13
import Derived.Test.YtnmcgmbhkmfiaaaGreatDoorFmt4
set_option linter.unusedVariables false
set_option linter.unusedSimpArgs false
namespace Go.Proofs.YtnmcgmbhkmfiaaaGreatDoor
open Go.RowKit Go.Sort
namespace F
open H K

theorem dec_more {u q d : Nat} (hd : d < 10) (hq : 1 ≤ q) (h : u = 10 * q + d) : Lib.decDigits u = Lib.decDigits q ++ [UInt8.ofNat (48 + d)] := by
  have e1 : u / 10 = q := by omega
  have e2 : u % 10 = d := by omega
  rw [Lib.decDigits, dif_neg (by omega), e1, e2]
theorem dec_one {u : Nat} (h : u < 10) : Lib.decDigits u = [UInt8.ofNat (48 + u)] := by rw [Lib.decDigits, dif_pos h]

theorem digit_at {d : Nat} (h : d < 10) : (⟨#[48, 49, 50, 51, 52, 53, 54, 55, 56, 57]⟩ : ByteArray).extract d (d + 1) = ⟨#[UInt8.ofNat (48 + d)]⟩ := by
  rcases (by omega : d = 0 ∨ d = 1 ∨ d = 2 ∨ d = 3 ∨ d = 4 ∨ d = 5 ∨ d = 6 ∨ d = 7 ∨ d = 8 ∨ d = 9) with rfl | rfl | rfl | rfl | rfl | rfl | rfl | rfl | rfl | rfl
  all_goals rfl

set_option maxHeartbeats 2000000 in
theorem number (n : Nat) (w : World) (hn : n ≤ 10000000000) :
    Calls Tryz.prog 79 #[.int .i64 n] w fun e w' => e = .returned (.string ⟨(Lib.decDigits n).toArray⟩) ∧ w' = w := by
  obtain ⟨D, hD⟩ : ∃ D, Lib.decDigits n = D := ⟨_, rfl⟩
  have H0 : Hid (D = Lib.decDigits n ++ []) := Lib.hid (by rw [hD]; simp)
  rw [hD]
  clear hD
  go_enter Tryz.func79, Tryz.ntmps79
  go_wp2_with fail
  go_loopw [0, 3] (fun v0 v3 wr => ∃ (m : Nat) (acc : List UInt8), v0 = .int .i64 m ∧ m ≤ n ∧ v3 = .string ⟨acc.toArray⟩ ∧ acc.length ≤ n - m ∧ Hid (D = Lib.decDigits m ++ acc) ∧ wr = w) (fun v0 _ _ => (intOf v0).toNat)
  case atStart => exact ⟨n, [], rfl, Nat.le_refl _, rfl, Nat.zero_le _, H0, rfl⟩
  case round =>
    obtain ⟨m, acc, rfl, hm, rfl, hacc, HD, rfl⟩ := hrel
    clear H0
    have za := bytes_size acc
    by_cases h10 : 10 ≤ m
    · obtain ⟨q, d, hd, hmq⟩ : ∃ q d, d < 10 ∧ m = 10 * q + d := ⟨m / 10, m % 10, Nat.mod_lt _ (by omega), by omega⟩
      have hq1 : 1 ≤ q := by omega
      have HD2 : Hid (D = Lib.decDigits q ++ (UInt8.ofNat (48 + d) :: acc)) := Lib.hid (by rw [HD.out, dec_more hd hq1 hmq]; simp)
      have e1 : decide ((10 : Int) ≤ (m : Int)) = true := decide_eq_true (by omega)
      have e0 : (10 : Int) ≤ (m : Int) := by omega
      have e2 : (m : Int) % 10 = (d : Int) := by omega
      have e3 : (m : Int) / 10 = (q : Int) := by omega
      have e4 := digit_at hd
      have hqm : q < m := by omega
      have hq2 : q ≤ n ∧ acc.length + 1 ≤ n - q := by omega
      have hacc2 : acc.length ≤ 10000000000 := by omega
      clear hmq hacc
      go_wp2_with fail
      go_roundw
      case rel => exact ⟨q, UInt8.ofNat (48 + d) :: acc, rfl, hq2.1, congrArg Value.string (by apply ByteArray.ext; simp [ByteArray.data_append]), hq2.2, HD2, trivial⟩
      case measure => simp [intOf]; omega
    · have hd : m < 10 := by omega
      have HD2 : Hid (D = UInt8.ofNat (48 + m) :: acc) := Lib.hid (by rw [HD.out, dec_one hd]; rfl)
      have e1 : decide ((10 : Int) ≤ (m : Int)) = false := decide_eq_false (by omega)
      have e0 : ¬ (10 : Int) ≤ (m : Int) := by omega
      have e4 := digit_at hd
      have hacc2 : acc.length ≤ 10000000000 := by omega
      clear hacc
      go_wp2_with fail
      go_ret
      exact ⟨ret_str (by rw [HD2.out]; apply ByteArray.ext; simp [ByteArray.data_append]), rfl⟩

set_option maxHeartbeats 2000000 in
theorem quote (v : List UInt8) (w : World) (hv : v.length ≤ 1000000000) :
    Calls Tryz.prog 62 #[.string ⟨v.toArray⟩] w fun e w' => e = .returned (.string ⟨(L.quoted v).toArray⟩) ∧ w = w' := by
  have zs := bytes_size v
  have HQ := Lib.hid (L.quoted.eq_1 v)
  generalize L.quoted v = q at *
  have H0 : Hid (∀ c ∈ v.take 0, c ≠ 34) := Lib.hid (fun c hc => (by simp at hc))
  go_enter Tryz.func62, Tryz.ntmps62
  go_wp2_with fail
  go_loopw [3] (fun v3 wr => ∃ k : Nat, v3 = .int .i64 k ∧ k ≤ v.length ∧ Hid (∀ c ∈ v.take k, c ≠ 34) ∧ w = wr) (fun v3 _ => v.length - (intOf v3).toNat)
  case atStart => exact ⟨0, rfl, Nat.zero_le _, H0, rfl⟩
  case round =>
    obtain ⟨k, rfl, hk, HN, rfl⟩ := hrel
    clear H0
    by_cases hkl : k < v.length
    · have hkI : (k : Int) < (v.length : Int) := by omega
      have e1 : decide ((k : Int) < (v.length : Int)) = true := decide_eq_true hkI
      obtain ⟨c, r, hd⟩ := drop_cons hkl
      have hx := at_drop hd (by rw [bytes_size]; exact hkl)
      have hmem : c ∈ v := List.mem_of_mem_drop (by rw [hd]; simp)
      have htk : v.take (k + 1) = v.take k ++ [c] := by
        rw [List.take_succ_eq_append_getElem hkl]
        rw [List.drop_eq_getElem_cons hkl] at hd
        rw [(List.cons.inj hd).1]
      have HT := Lib.hid htk
      clear hd htk
      by_cases hc : c = 34
      · have HV : Hid (q = 39 :: (v ++ [39])) := Lib.hid (by rw [HQ.out, if_pos (hc ▸ hmem)])
        have y1 : ((c.toNat : Int) == 34) = true := byte_is (n := 34) hc (by decide)
        clear HQ HN hc hmem HT
        go_wp2_with fail
        go_ret
        exact ⟨ret_str (by rw [HV.out]; apply ByteArray.ext; simp [ByteArray.data_append]), rfl⟩
      · have y1 : ((c.toNat : Int) == 34) = false := byte_ne (n := 34) hc (by decide)
        have HN2 : Hid (∀ c ∈ v.take (k + 1), c ≠ 34) := Lib.hid (fun x hx => by
          rw [HT.out, List.mem_append] at hx
          rcases hx with hx | hx
          · exact HN.out x hx
          · rw [List.mem_singleton.1 hx]; exact hc)
        clear HN hc hmem HT
        go_wp2_with fail
        go_roundw
        case rel => exact ⟨k + 1, by go_num, by omega, HN2, trivial⟩
        case measure => simp [intOf]; omega
    · obtain rfl : k = v.length := by omega
      have HV : Hid (q = 34 :: (v ++ [34])) := Lib.hid (by
        rw [HQ.out, if_neg]
        intro h
        exact HN.out 34 (by rw [List.take_length]; exact h) rfl)
      clear HQ HN
      go_wp2_with fail
      go_ret
      exact ⟨ret_str (by rw [HV.out]; apply ByteArray.ext; simp [ByteArray.data_append]), rfl⟩

theorem ahead_one : L.ahead 1 = [] := rfl
theorem ahead_minus : L.ahead (-1) = [45] := rfl
theorem ahead_more {a : Nat} (h : 1 < a) : L.ahead (a : Int) = Lib.decDigits a := by
  unfold L.ahead; rw [if_neg (by omega), if_neg (by omega)]; exact Lib.itoa_nonneg a
theorem ahead_less {a : Nat} (h : 1 < a) : L.ahead (-(a : Int)) = 45 :: Lib.decDigits a := by
  unfold L.ahead; rw [if_neg (by omega), if_neg (by omega)]; exact Lib.itoa_neg a (by omega)
theorem behind_no : L.behind 0 = [] := rfl
theorem behind_more {b : Nat} (h : 0 < b) : L.behind (b : Int) = 43 :: Lib.decDigits b := by
  unfold L.behind; rw [if_pos (by omega), if_neg (by omega), Lib.itoa_nonneg]; rfl
theorem behind_less {b : Nat} (h : 0 < b) : L.behind (-(b : Int)) = 45 :: Lib.decDigits b := by
  unfold L.behind; rw [if_neg (by omega), if_neg (by omega), Lib.itoa_neg b (by omega)]; rfl

set_option maxHeartbeats 4000000 in
set_option maxRecDepth 100000 in
theorem step (a b : Int) (w : World) (ha : -1000000 ≤ a) (ha2 : a ≤ 1000000) (hb : -1000000 ≤ b) (hb2 : b ≤ 1000000) :
    Calls Tryz.prog 63 #[.int .i64 a, .int .i64 b] w fun e w' => e = .returned (.string ⟨(L.stepOf a b).toArray⟩) ∧ w' = w := by
  have HV := Lib.hid (L.stepOf.eq_1 a b)
  have HNu := Lib.hid (fun (n : Nat) (h : n ≤ 1000000) (W : World) => number n W (by omega))
  have LNu : ∀ n : Nat, n ≤ 1000000 → (Lib.decDigits n).length ≤ 21 := fun n h => by
    have := Lib.itoa_length_le (n : Int) (by omega) (by omega)
    rw [Lib.itoa_nonneg] at this; exact this
  generalize L.stepOf a b = q at *
  go_enter Tryz.func63, Tryz.ntmps63
  obtain ⟨nb, hnb⟩ : ∃ nb : Nat, nb = b.natAbs := ⟨_, rfl⟩
  obtain ⟨na, hna⟩ : ∃ na : Nat, na = a.natAbs := ⟨_, rfl⟩
  have Lb := LNu nb (by omega)
  have La := LNu na (by omega)
  have zb := bytes_size (Lib.decDigits nb)
  have za := bytes_size (Lib.decDigits na)
  have Qb := Lib.hid (fun W => HNu.out nb (by omega) W)
  have Qa := Lib.hid (fun W => HNu.out na (by omega) W)
  clear LNu HNu
  by_cases h0 : a = 0
  · have HQ : Hid (q = Lib.itoa b) := Lib.hid (by rw [HV.out, if_pos h0])
    subst h0
    rcases (by omega : b < 0 ∨ 0 ≤ b) with hbn | hbn
    · obtain rfl : b = -(nb : Int) := by omega
      have HQ2 : Hid (q = 45 :: Lib.decDigits nb) := Lib.hid (by rw [HQ.out, Lib.itoa_neg nb (by omega)])
      have d1 : decide (-(nb : Int) < 0) = true := decide_eq_true hbn
      have g1 : IntKind.i64.wrap (- -(nb : Int)) = (nb : Int) := by rw [Int.neg_neg]; exact IntWalk.i64_in _ (by omega)
      generalize Lib.decDigits nb = D at *
      clear HV HQ hnb hna Qa za La
      go_wp2_with fail
      refine (Qb.out _).mono ?_
      rintro e w2 ⟨rfl, rfl⟩
      go_wp2_with fail
      go_ret
      exact ⟨ret_str (by rw [HQ2.out]; apply ByteArray.ext; simp [ByteArray.data_append]), rfl⟩
    · obtain rfl : b = (nb : Int) := by omega
      have HQ2 : Hid (q = Lib.decDigits nb) := Lib.hid (by rw [HQ.out, Lib.itoa_nonneg])
      have d1 : decide ((nb : Int) < 0) = false := decide_eq_false (by omega)
      generalize Lib.decDigits nb = D at *
      clear HV HQ hnb hna Qa za La
      go_wp2_with fail
      refine (Qb.out _).mono ?_
      rintro e w2 ⟨rfl, rfl⟩
      go_wp2_with fail
      go_ret
      exact ⟨ret_str (by rw [HQ2.out]), rfl⟩
  · have e0 : (a == 0) = false := by simpa using h0
    have HQ : Hid (q = L.ahead a ++ (110 :: L.behind b)) := Lib.hid (by rw [HV.out, if_neg h0])
    clear HV
    rcases (by omega : (a = 1) ∨ (a = -1) ∨ (1 < na ∧ a = (na : Int)) ∨ (1 < na ∧ a = -(na : Int))) with hA | hA | hA | hA
    · rcases (by omega : (b = 0) ∨ (0 < nb ∧ b = (nb : Int)) ∨ (0 < nb ∧ b = -(nb : Int))) with hB | hB | hB
      · subst hA
        subst hB
        have HAh := Lib.hid (ahead_one)
        have HB0 := Lib.hid (behind_no)
        clear hna hnb h0 e0
        clear Qa La za Qb Lb zb
        go_wp2_with fail
        go_ret
        exact ⟨ret_str (by rw [HQ.out, HAh.out, HB0.out]; apply ByteArray.ext; simp [ByteArray.data_append]), rfl⟩
      · subst hA
        obtain ⟨hn2, rfl⟩ := hB
        have HAh := Lib.hid (ahead_one)
        have HB0 := Lib.hid (behind_more hn2)
        have q1 : decide ((0 : Int) < (nb : Int)) = true := decide_eq_true (by omega)
        have q2 : decide ((nb : Int) < 0) = false := decide_eq_false (by omega)
        clear hna hnb h0 e0
        clear Qa La za
        generalize Lib.decDigits nb = Db at *
        go_wp2_with fail
        refine (Qb.out _).mono ?_
        rintro e w3 ⟨rfl, rfl⟩
        go_wp2_with fail
        go_ret
        exact ⟨ret_str (by rw [HQ.out, HAh.out, HB0.out]; apply ByteArray.ext; simp [ByteArray.data_append]), rfl⟩
      · subst hA
        obtain ⟨hn2, rfl⟩ := hB
        have HAh := Lib.hid (ahead_one)
        have HB0 := Lib.hid (behind_less hn2)
        have q1 : decide ((0 : Int) < -(nb : Int)) = false := decide_eq_false (by omega)
        have q2 : decide (-(nb : Int) < 0) = true := decide_eq_true (by omega)
        have q3 : IntKind.i64.wrap (- -(nb : Int)) = (nb : Int) := by rw [Int.neg_neg]; exact IntWalk.i64_in _ (by omega)
        clear hna hnb h0 e0
        clear Qa La za
        generalize Lib.decDigits nb = Db at *
        go_wp2_with fail
        refine (Qb.out _).mono ?_
        rintro e w3 ⟨rfl, rfl⟩
        go_wp2_with fail
        go_ret
        exact ⟨ret_str (by rw [HQ.out, HAh.out, HB0.out]; apply ByteArray.ext; simp [ByteArray.data_append]), rfl⟩
    · rcases (by omega : (b = 0) ∨ (0 < nb ∧ b = (nb : Int)) ∨ (0 < nb ∧ b = -(nb : Int))) with hB | hB | hB
      · subst hA
        subst hB
        have HAh := Lib.hid (ahead_minus)
        have HB0 := Lib.hid (behind_no)
        clear hna hnb h0 e0
        clear Qa La za Qb Lb zb
        go_wp2_with fail
        go_ret
        exact ⟨ret_str (by rw [HQ.out, HAh.out, HB0.out]; apply ByteArray.ext; simp [ByteArray.data_append]), rfl⟩
      · subst hA
        obtain ⟨hn2, rfl⟩ := hB
        have HAh := Lib.hid (ahead_minus)
        have HB0 := Lib.hid (behind_more hn2)
        have q1 : decide ((0 : Int) < (nb : Int)) = true := decide_eq_true (by omega)
        have q2 : decide ((nb : Int) < 0) = false := decide_eq_false (by omega)
        clear hna hnb h0 e0
        clear Qa La za
        generalize Lib.decDigits nb = Db at *
        go_wp2_with fail
        refine (Qb.out _).mono ?_
        rintro e w3 ⟨rfl, rfl⟩
        go_wp2_with fail
        go_ret
        exact ⟨ret_str (by rw [HQ.out, HAh.out, HB0.out]; apply ByteArray.ext; simp [ByteArray.data_append]), rfl⟩
      · subst hA
        obtain ⟨hn2, rfl⟩ := hB
        have HAh := Lib.hid (ahead_minus)
        have HB0 := Lib.hid (behind_less hn2)
        have q1 : decide ((0 : Int) < -(nb : Int)) = false := decide_eq_false (by omega)
        have q2 : decide (-(nb : Int) < 0) = true := decide_eq_true (by omega)
        have q3 : IntKind.i64.wrap (- -(nb : Int)) = (nb : Int) := by rw [Int.neg_neg]; exact IntWalk.i64_in _ (by omega)
        clear hna hnb h0 e0
        clear Qa La za
        generalize Lib.decDigits nb = Db at *
        go_wp2_with fail
        refine (Qb.out _).mono ?_
        rintro e w3 ⟨rfl, rfl⟩
        go_wp2_with fail
        go_ret
        exact ⟨ret_str (by rw [HQ.out, HAh.out, HB0.out]; apply ByteArray.ext; simp [ByteArray.data_append]), rfl⟩
    · rcases (by omega : (b = 0) ∨ (0 < nb ∧ b = (nb : Int)) ∨ (0 < nb ∧ b = -(nb : Int))) with hB | hB | hB
      · obtain ⟨hn1, rfl⟩ := hA
        subst hB
        have HAh := Lib.hid (ahead_more hn1)
        have HB0 := Lib.hid (behind_no)
        have p1 : decide ((1 : Int) < (na : Int)) = true := decide_eq_true (by omega)
        have p2 : decide ((na : Int) < 0) = false := decide_eq_false (by omega)
        have p3 : IntKind.i64.wrap (-(na : Int)) = -(na : Int) := IntWalk.i64_in _ (by omega)
        have p4 : max (na : Int) (-(na : Int)) = (na : Int) := by omega
        have p5 : (1 : Int) < (na : Int) := by omega
        clear hna hnb h0 e0
        clear Qb Lb zb
        generalize Lib.decDigits na = Da at *
        go_wp2_with fail
        refine (Qa.out _).mono ?_
        rintro e w2 ⟨rfl, rfl⟩
        go_wp2_with fail
        go_ret
        exact ⟨ret_str (by rw [HQ.out, HAh.out, HB0.out]; apply ByteArray.ext; simp [ByteArray.data_append]), rfl⟩
      · obtain ⟨hn1, rfl⟩ := hA
        obtain ⟨hn2, rfl⟩ := hB
        have HAh := Lib.hid (ahead_more hn1)
        have HB0 := Lib.hid (behind_more hn2)
        have p1 : decide ((1 : Int) < (na : Int)) = true := decide_eq_true (by omega)
        have p2 : decide ((na : Int) < 0) = false := decide_eq_false (by omega)
        have p3 : IntKind.i64.wrap (-(na : Int)) = -(na : Int) := IntWalk.i64_in _ (by omega)
        have p4 : max (na : Int) (-(na : Int)) = (na : Int) := by omega
        have p5 : (1 : Int) < (na : Int) := by omega
        have q1 : decide ((0 : Int) < (nb : Int)) = true := decide_eq_true (by omega)
        have q2 : decide ((nb : Int) < 0) = false := decide_eq_false (by omega)
        clear hna hnb h0 e0
        skip
        generalize Lib.decDigits na = Da at *
        generalize Lib.decDigits nb = Db at *
        go_wp2_with fail
        refine (Qa.out _).mono ?_
        rintro e w2 ⟨rfl, rfl⟩
        go_wp2_with fail
        refine (Qb.out _).mono ?_
        rintro e w3 ⟨rfl, rfl⟩
        go_wp2_with fail
        go_ret
        exact ⟨ret_str (by rw [HQ.out, HAh.out, HB0.out]; apply ByteArray.ext; simp [ByteArray.data_append]), rfl⟩
      · obtain ⟨hn1, rfl⟩ := hA
        obtain ⟨hn2, rfl⟩ := hB
        have HAh := Lib.hid (ahead_more hn1)
        have HB0 := Lib.hid (behind_less hn2)
        have p1 : decide ((1 : Int) < (na : Int)) = true := decide_eq_true (by omega)
        have p2 : decide ((na : Int) < 0) = false := decide_eq_false (by omega)
        have p3 : IntKind.i64.wrap (-(na : Int)) = -(na : Int) := IntWalk.i64_in _ (by omega)
        have p4 : max (na : Int) (-(na : Int)) = (na : Int) := by omega
        have p5 : (1 : Int) < (na : Int) := by omega
        have q1 : decide ((0 : Int) < -(nb : Int)) = false := decide_eq_false (by omega)
        have q2 : decide (-(nb : Int) < 0) = true := decide_eq_true (by omega)
        have q3 : IntKind.i64.wrap (- -(nb : Int)) = (nb : Int) := by rw [Int.neg_neg]; exact IntWalk.i64_in _ (by omega)
        clear hna hnb h0 e0
        skip
        generalize Lib.decDigits na = Da at *
        generalize Lib.decDigits nb = Db at *
        go_wp2_with fail
        refine (Qa.out _).mono ?_
        rintro e w2 ⟨rfl, rfl⟩
        go_wp2_with fail
        refine (Qb.out _).mono ?_
        rintro e w3 ⟨rfl, rfl⟩
        go_wp2_with fail
        go_ret
        exact ⟨ret_str (by rw [HQ.out, HAh.out, HB0.out]; apply ByteArray.ext; simp [ByteArray.data_append]), rfl⟩
    · rcases (by omega : (b = 0) ∨ (0 < nb ∧ b = (nb : Int)) ∨ (0 < nb ∧ b = -(nb : Int))) with hB | hB | hB
      · obtain ⟨hn1, rfl⟩ := hA
        subst hB
        have HAh := Lib.hid (ahead_less hn1)
        have HB0 := Lib.hid (behind_no)
        have p1 : decide ((1 : Int) < -(na : Int)) = false := decide_eq_false (by omega)
        have p2 : decide (-(na : Int) < 0) = true := decide_eq_true (by omega)
        have p3 : IntKind.i64.wrap (- -(na : Int)) = (na : Int) := by rw [Int.neg_neg]; exact IntWalk.i64_in _ (by omega)
        have p4 : max (-(na : Int)) (na : Int) = (na : Int) := by omega
        have p5 : decide (-(na : Int) < -1) = true := decide_eq_true (by omega)
        have p6 : IntKind.i64.wrap ((na : Int)) = (na : Int) := IntWalk.i64_in _ (by omega)
        clear hna hnb h0 e0
        clear Qb Lb zb
        generalize Lib.decDigits na = Da at *
        go_wp2_with fail
        refine (Qa.out _).mono ?_
        rintro e w2 ⟨rfl, rfl⟩
        go_wp2_with fail
        go_ret
        exact ⟨ret_str (by rw [HQ.out, HAh.out, HB0.out]; apply ByteArray.ext; simp [ByteArray.data_append]), rfl⟩
      · obtain ⟨hn1, rfl⟩ := hA
        obtain ⟨hn2, rfl⟩ := hB
        have HAh := Lib.hid (ahead_less hn1)
        have HB0 := Lib.hid (behind_more hn2)
        have p1 : decide ((1 : Int) < -(na : Int)) = false := decide_eq_false (by omega)
        have p2 : decide (-(na : Int) < 0) = true := decide_eq_true (by omega)
        have p3 : IntKind.i64.wrap (- -(na : Int)) = (na : Int) := by rw [Int.neg_neg]; exact IntWalk.i64_in _ (by omega)
        have p4 : max (-(na : Int)) (na : Int) = (na : Int) := by omega
        have p5 : decide (-(na : Int) < -1) = true := decide_eq_true (by omega)
        have p6 : IntKind.i64.wrap ((na : Int)) = (na : Int) := IntWalk.i64_in _ (by omega)
        have q1 : decide ((0 : Int) < (nb : Int)) = true := decide_eq_true (by omega)
        have q2 : decide ((nb : Int) < 0) = false := decide_eq_false (by omega)
        clear hna hnb h0 e0
        skip
        generalize Lib.decDigits na = Da at *
        generalize Lib.decDigits nb = Db at *
        go_wp2_with fail
        refine (Qa.out _).mono ?_
        rintro e w2 ⟨rfl, rfl⟩
        go_wp2_with fail
        refine (Qb.out _).mono ?_
        rintro e w3 ⟨rfl, rfl⟩
        go_wp2_with fail
        go_ret
        exact ⟨ret_str (by rw [HQ.out, HAh.out, HB0.out]; apply ByteArray.ext; simp [ByteArray.data_append]), rfl⟩
      · obtain ⟨hn1, rfl⟩ := hA
        obtain ⟨hn2, rfl⟩ := hB
        have HAh := Lib.hid (ahead_less hn1)
        have HB0 := Lib.hid (behind_less hn2)
        have p1 : decide ((1 : Int) < -(na : Int)) = false := decide_eq_false (by omega)
        have p2 : decide (-(na : Int) < 0) = true := decide_eq_true (by omega)
        have p3 : IntKind.i64.wrap (- -(na : Int)) = (na : Int) := by rw [Int.neg_neg]; exact IntWalk.i64_in _ (by omega)
        have p4 : max (-(na : Int)) (na : Int) = (na : Int) := by omega
        have p5 : decide (-(na : Int) < -1) = true := decide_eq_true (by omega)
        have p6 : IntKind.i64.wrap ((na : Int)) = (na : Int) := IntWalk.i64_in _ (by omega)
        have q1 : decide ((0 : Int) < -(nb : Int)) = false := decide_eq_false (by omega)
        have q2 : decide (-(nb : Int) < 0) = true := decide_eq_true (by omega)
        have q3 : IntKind.i64.wrap (- -(nb : Int)) = (nb : Int) := by rw [Int.neg_neg]; exact IntWalk.i64_in _ (by omega)
        clear hna hnb h0 e0
        skip
        generalize Lib.decDigits na = Da at *
        generalize Lib.decDigits nb = Db at *
        go_wp2_with fail
        refine (Qa.out _).mono ?_
        rintro e w2 ⟨rfl, rfl⟩
        go_wp2_with fail
        refine (Qb.out _).mono ?_
        rintro e w3 ⟨rfl, rfl⟩
        go_wp2_with fail
        go_ret
        exact ⟨ret_str (by rw [HQ.out, HAh.out, HB0.out]; apply ByteArray.ext; simp [ByteArray.data_append]), rfl⟩

end F
end Go.Proofs.YtnmcgmbhkmfiaaaGreatDoor
