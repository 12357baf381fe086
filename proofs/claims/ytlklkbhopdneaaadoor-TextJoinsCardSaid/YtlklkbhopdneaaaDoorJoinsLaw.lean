/- The statement TextJoins: it returns true at every two strings and every number, where Go's two tables of package utf8 lie as their texts lay them. -/
import Derived.Test.YtlklkbhopdneaaaDoorSlicesLaw
import Derived.OpenShut
set_option linter.unusedVariables false
set_option linter.unusedSimpArgs false
namespace Go.Proofs.YtlklkbhopdneaaaDoor
open Go.RowKit
namespace T

theorem sl_join (L : List (List UInt8)) (k n : Nat) (h : k ≤ n) : U.sl L 0 k ++ U.sl L k n = U.sl L 0 n := by
  unfold U.sl
  rw [List.drop_zero, List.drop_zero, ← List.flatten_append]
  congr 1
  have := List.take_append_drop k (L.take n)
  rw [List.take_take, Nat.min_eq_left h] at this
  exact this

/-- The first k code points of a string are valid, and are k. -/
theorem pts_take (l : List UInt8) : ∀ (n k : Nat) (l : List UInt8), l.length ≤ n → U.pts ((U.pts l).take k).flatten = (U.pts l).take k := by
  intro n
  induction n with
  | zero =>
    intro k l h
    have : l = [] := List.eq_nil_of_length_eq_zero (by omega)
    subst this; simp [U.pts_nil]
  | succ n ih =>
    intro k l h
    by_cases hl : l = []
    · subst hl; simp [U.pts_nil]
    · have ha := U.adv_pos l
      rw [U.pts_cons l hl]
      cases k with
      | zero => simp [U.pts_nil]
      | succ k =>
        rw [List.take_succ_cons, List.flatten_cons, U.pts_cons _ (U.ne_nil_chunk l _ hl), U.chunk_chunk l _ hl, U.adv_chunk l _ hl, List.drop_left, ih k _ (by simp; omega)]

theorem sl_zero (L : List (List UInt8)) (k : Nat) : U.sl L 0 k = (L.take k).flatten := rfl

set_option maxHeartbeats 2000000 in
set_option maxRecDepth 100000 in
theorem TextJoins_small (s u : ByteArray) (x : Nat) (w : World) (hs : s.size ≤ 2000) (hu : u.size ≤ 2000) (hx : x < 65536) (hT : Tabs w) :
    Calls Tryd.prog 5 #[.string s, .string u, .int .u16 (x : Int)] w fun e w' => e = .returned (.bool true) ∧ Below w.heap.size w w' := by
  have hrl := U.rep_le s.data.toList
  have hpl := U.pts_length s.data.toList
  have hpu := U.pts_length u.data.toList
  rw [U.list_size] at hrl hpl hpu
  have HT := Lib.hid hT
  clear hT
  go_enter Tryd.func5, Tryd.ntmps5
  go_wp2_with (go_at_call 9; refine (awake _).mono ?_)
  rintro e w1 ⟨rfl, b1⟩
  have T1 := Lib.hid (HT.out.below b1)
  go_wp2_with (go_at_call 16; refine (Len s _ (by omega)).mono ?_)
  rintro e w2 ⟨rfl, b2⟩
  have T2 := Lib.hid (T1.out.below b2)
  obtain ⟨n, hn⟩ : ∃ n, (U.pts s.data.toList).length = n := ⟨_, rfl⟩
  rw [hn]
  have hn2 : n ≤ s.size := by omega
  have HN := Lib.hid hn
  clear hn
  have hmod : x % (n + 1) ≤ n := by have := Nat.mod_lt x (show 0 < n + 1 by omega); omega
  obtain ⟨k, hk⟩ : ∃ k, x % (n + 1) = k := ⟨_, rfl⟩
  have hkz : (x : Int) % ((n : Int) + 1) = (k : Int) := by rw [← hk]; simp
  rw [hk] at hmod
  clear hk
  have q1' := fun W hW => Slice s 0 (k : Int) W (by omega) hW
  rw [Int.toNat_natCast, Int.toNat_zero] at q1'
  have q1 := Lib.hid q1'
  clear q1'
  go_wp2_with (go_at_call 14; refine (q1.out _ T2.out).mono ?_)
  rintro e w3 ⟨rfl, b3⟩
  have T3 := Lib.hid (T2.out.below b3)
  have q2' := fun W hW => Slice s (k : Int) (n : Int) W (by omega) hW
  rw [Int.toNat_natCast, Int.toNat_natCast] at q2'
  have q2 := Lib.hid q2'
  clear q2'
  go_wp2_with (go_at_call 14; refine (q2.out _ T3.out).mono ?_)
  rintro e w4 ⟨rfl, b4⟩
  have T4 := Lib.hid (T3.out.below b4)
  have e1 : U.sl (U.pts s.data.toList) 0 k ++ U.sl (U.pts s.data.toList) k n = U.rep s.data.toList := by
    rw [sl_join _ _ _ hmod, sl_zero, ← HN.out, List.take_of_length_le (Nat.le_refl _)]; rfl
  have l1 := sl_length (U.pts s.data.toList) 0 k
  have l2 := sl_length (U.pts s.data.toList) k n
  have l0 : (U.pts s.data.toList).flatten.length = (U.rep s.data.toList).length := rfl
  have hab := append_bytes (U.sl (U.pts s.data.toList) 0 k) (U.sl (U.pts s.data.toList) k n)
  rw [e1] at hab
  have z1 := bytes_size (U.sl (U.pts s.data.toList) 0 k)
  have z2 := bytes_size (U.sl (U.pts s.data.toList) k n)
  have zz : ((⟨(U.sl (U.pts s.data.toList) 0 k).toArray⟩ : ByteArray).size : Int) + ((⟨(U.sl (U.pts s.data.toList) k n).toArray⟩ : ByteArray).size : Int) ≤ 1000000 := by omega
  have q3 := Lib.hid (Repair s w4 (by omega) T4.out)
  have q5 : ∀ W, Calls Tryd.prog 16 #[.string ⟨(U.sl (U.pts s.data.toList) 0 k).toArray⟩] W fun e w' => e = .returned (.int .i64 k) ∧ Below W.heap.size W w' := fun W => by
    have := Len ⟨(U.sl (U.pts s.data.toList) 0 k).toArray⟩ W (by omega)
    rw [bytes_toList, sl_zero, pts_take [] s.data.toList.length k _ (Nat.le_refl _), List.length_take, HN.out, Nat.min_eq_left hmod] at this
    rw [sl_zero]
    exact this
  have Q5 := Lib.hid q5
  have hap := append_bytes (U.rep s.data.toList) u.data.toList
  have eu : (⟨u.data.toList.toArray⟩ : ByteArray) = u := by cases u; simp
  rw [eu] at hap
  have zr := bytes_size (U.rep s.data.toList)
  have zz2 : ((⟨(U.rep s.data.toList).toArray⟩ : ByteArray).size : Int) + (u.size : Int) ≤ 1000000 := by omega
  have q6 : ∀ W, Calls Tryd.prog 16 #[.string ⟨(U.rep s.data.toList ++ u.data.toList).toArray⟩] W fun e w' => e = .returned (.int .i64 ((n : Int) + (U.pts u.data.toList).length)) ∧ Below W.heap.size W w' := fun W => by
    have := Len ⟨(U.rep s.data.toList ++ u.data.toList).toArray⟩ W (by rw [bytes_size, List.length_append, U.list_size]; omega)
    rw [bytes_toList, U.pts_rep s.data.toList.length _ _ (Nat.le_refl _), List.length_append, HN.out] at this
    rw [show ((n : Int) + ((U.pts u.data.toList).length : Int)) = ((n + (U.pts u.data.toList).length : Nat) : Int) from by omega]
    exact this
  have Q6 := Lib.hid q6
  clear e1 l1 l2 l0 z1 z2 q5 q6 eu zr q2
  generalize U.sl (U.pts s.data.toList) 0 k = A at *
  generalize U.sl (U.pts s.data.toList) k n = B at *
  have hq7 := fun W => Len u W (by omega)
  have Q7 := Lib.hid hq7
  clear hq7
  obtain ⟨m, hm⟩ : ∃ m, (U.pts u.data.toList).length = m := ⟨_, rfl⟩
  rw [hm] at Q6 Q7 hpu
  have HM := Lib.hid hm
  clear hm
  generalize hRR : U.rep s.data.toList = R at *
  have HRR := Lib.hid hRR
  clear hRR
  have HAP := Lib.hid hap
  clear hap
  go_wp2_with (go_at_call 11; refine q3.out.mono ?_)
  rintro e w5 ⟨rfl, b5⟩
  have T5 := Lib.hid (T4.out.below b5)
  clear hab zz
  go_wp2_with (go_at_call 14; refine (q1.out _ T5.out).mono ?_)
  rintro e w6 ⟨rfl, b6⟩
  have T6 := Lib.hid (T5.out.below b6)
  go_wp2_with (go_at_call 16; refine (Q5.out _).mono ?_)
  rintro e w7 ⟨rfl, b7⟩
  have T7 := Lib.hid (T6.out.below b7)
  have q8 := Lib.hid (Repair s w7 (by omega) T7.out)
  rw [HRR.out] at q8
  go_wp2_with (go_at_call 11; refine q8.out.mono ?_)
  rintro e w8 ⟨rfl, b8⟩
  have hap2 := HAP.out
  go_wp2_with (go_at_call 16; refine (Q6.out _).mono ?_)
  rintro e w9 ⟨rfl, b9⟩
  clear hap2
  go_wp2_with (go_at_call 16; refine (Q7.out _).mono ?_)
  rintro e w10 ⟨rfl, b10⟩
  go_wp2_with fail
  go_ret
  have z1 := b1.size
  have z2 := b2.size
  have z3 := b3.size
  have z4 := b4.size
  have z5 := b5.size
  have z6 := b6.size
  have z7 := b7.size
  have z8 := b8.size
  have z9 := b9.size
  refine ⟨ret_bool (by simp), ?_⟩
  exact ((((((((b1.trans (b2.mono z1)).trans (b3.mono (by omega))).trans (b4.mono (by omega))).trans (b5.mono (by omega))).trans (b6.mono (by omega))).trans (b7.mono (by omega))).trans (b8.mono (by omega))).trans (b9.mono (by omega))).trans (b10.mono (by omega))

set_option maxHeartbeats 1000000 in
set_option maxRecDepth 100000 in
theorem TextJoins (s u : ByteArray) (a : Int) (w : World) (hs0 : s.size ≤ maxLen) (hu0 : u.size ≤ maxLen) (ha : (Lit.int .u16 a).wf = true) (hT : Tabs w) :
    Calls Tryd.prog 5 #[.string s, .string u, .int .u16 a] w fun e w' => e = .returned (.bool true) ∧ Below w.heap.size w w' := by
  unfold maxLen at hs0 hu0
  have hb := bounds_u16 ha
  clear ha
  by_cases h2 : s.size ≤ 2000
  · by_cases h3 : u.size ≤ 2000
    · obtain ⟨x, rfl⟩ := Int.eq_ofNat_of_zero_le hb.1
      exact TextJoins_small s u x w h2 h3 (by omega) hT
    · have h3' : 2000 < u.size := by omega
      clear h3 hT hb
      have hd : decide ((2000 : Int) < (s.size : Int)) = false := by simp; omega
      have hd2 : decide ((2000 : Int) < (u.size : Int)) = true := by simp; omega
      go_enter Tryd.func5, Tryd.ntmps5
      go_wp2_with (go_at_call 9; refine (awake _).mono ?_)
      rintro e w1 ⟨rfl, b1⟩
      go_wp2_with (go_at_call 9; refine (awake _).mono ?_)
      rintro e w2 ⟨rfl, b2⟩
      go_wp2_with fail
      go_ret
      exact ⟨rfl, b1.trans (b2.mono b1.size)⟩
  · have h2' : 2000 < s.size := by omega
    clear h2 hT hb
    have hd : decide ((2000 : Int) < (s.size : Int)) = true := by simp; omega
    go_enter Tryd.func5, Tryd.ntmps5
    go_wp2_with (go_at_call 9; refine (awake _).mono ?_)
    rintro e w1 ⟨rfl, b1⟩
    go_wp2_with (go_at_call 9; refine (awake _).mono ?_)
    rintro e w2 ⟨rfl, b2⟩
    go_wp2_with fail
    go_ret
    exact ⟨rfl, b1.trans (b2.mono b1.size)⟩

end T
end Go.Proofs.YtlklkbhopdneaaaDoor
