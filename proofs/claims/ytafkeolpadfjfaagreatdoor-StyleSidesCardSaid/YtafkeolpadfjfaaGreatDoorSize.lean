/- What the reference's Size comes to: the plain function sz at the place. -/
import Derived.Test.YtafkeolpadfjfaaGreatDoorRef
set_option linter.unusedVariables false
set_option linter.unusedSimpArgs false
namespace Go.Proofs.YtafkeolpadfjfaaGreatDoor
open Go.RowKit
namespace T

theorem sz_at (l : List UInt8) (k : Nat) : U.sz (l.drop k) =
    if U.rng l k 0 127 then 1
    else if U.rng l k 194 223 && tl l (k + 1) 1 then 2
    else if U.rng l k 224 239 && (U.second (l.drop k) && tl l (k + 2) 1) then 3
    else if U.rng l k 240 244 && (U.second (l.drop k) && tl l (k + 2) 2) then 4
    else 0 := by
  unfold U.sz
  simp only [rng_drop, Nat.add_zero, tl, Bool.true_and]

theorem rng_other {l : List UInt8} {k lo hi lo' hi' : Nat} (h : U.rng l k lo hi = true) (hd : hi < lo') : U.rng l k lo' hi' = false := by
  rw [Bool.eq_false_iff]
  intro e
  rw [U.rng_iff] at h e
  omega

theorem rng_lt {s : ByteArray} {k lo hi : Nat} (h : U.rng s.data.toList k lo hi = true) : k < s.size := by
  rw [U.rng_iff] at h
  simpa using h.1

set_option maxHeartbeats 1000000 in
theorem size0 (s : ByteArray) (k : Nat) (w : World) (hs : s.size ≤ 140737488351232) (hk : k ≤ s.size) (e0 : U.rng s.data.toList k 0 127 = true) :
    Calls Tryz.prog 111 #[.string s, .int .i64 k] w fun e w' => e = .returned (.int .i64 1) ∧ w = w' := by
  have c0 := fun W => refIn s (k : Int) 0 127 W hs (by omega)
  rw [Int.toNat_natCast, e0] at c0
  have C0 := Lib.hid c0
  clear c0 e0
  go_enter Tryz.func111, Tryz.ntmps111
  go_wp2_with fail
  refine (C0.out _).mono ?_
  rintro e w' ⟨rfl, rfl⟩
  go_wp2_with fail
  go_ret
  exact ⟨rfl, rfl⟩

set_option maxHeartbeats 1000000 in
theorem size1 (s : ByteArray) (k : Nat) (w : World) (hs : s.size ≤ 140737488351232) (hk : k ≤ s.size) (e0 : U.rng s.data.toList k 0 127 = false) (e1 : U.rng s.data.toList k 194 223 = true) (e2 : tl s.data.toList (k + 1) 1 = true) :
    Calls Tryz.prog 111 #[.string s, .int .i64 k] w fun e w' => e = .returned (.int .i64 2) ∧ w = w' := by
  have c0 := fun W => refIn s (k : Int) 0 127 W hs (by omega)
  rw [Int.toNat_natCast, e0] at c0
  have c1 := fun W => refIn s (k : Int) 194 223 W hs (by omega)
  rw [Int.toNat_natCast, e1] at c1
  have c2 := fun W => refTail s ((k : Int) + 1) 1 W hs (by omega) (by omega) (by omega)
  rw [show ((k : Int) + 1).toNat = k + 1 from by omega, e2] at c2
  have C0 := Lib.hid c0
  have C1 := Lib.hid c1
  have C2 := Lib.hid c2
  clear c2 e2 c1 e1 c0 e0
  go_enter Tryz.func111, Tryz.ntmps111
  go_wp2_with fail
  refine (C0.out _).mono ?_
  rintro e w' ⟨rfl, rfl⟩
  go_wp2_with fail
  refine (C1.out _).mono ?_
  rintro e w' ⟨rfl, rfl⟩
  go_wp2_with fail
  refine (C2.out _).mono ?_
  rintro e w' ⟨rfl, rfl⟩
  go_wp2_with fail
  go_ret
  exact ⟨rfl, rfl⟩

set_option maxHeartbeats 1000000 in
theorem size2 (s : ByteArray) (k : Nat) (w : World) (hs : s.size ≤ 140737488351232) (hk : k ≤ s.size) (e0 : U.rng s.data.toList k 0 127 = false) (e1 : U.rng s.data.toList k 194 223 = true) (e2 : tl s.data.toList (k + 1) 1 = false) (e3 : U.rng s.data.toList k 224 239 = false) (e4 : U.rng s.data.toList k 240 244 = false) :
    Calls Tryz.prog 111 #[.string s, .int .i64 k] w fun e w' => e = .returned (.int .i64 0) ∧ w = w' := by
  have c0 := fun W => refIn s (k : Int) 0 127 W hs (by omega)
  rw [Int.toNat_natCast, e0] at c0
  have c1 := fun W => refIn s (k : Int) 194 223 W hs (by omega)
  rw [Int.toNat_natCast, e1] at c1
  have c2 := fun W => refTail s ((k : Int) + 1) 1 W hs (by omega) (by omega) (by omega)
  rw [show ((k : Int) + 1).toNat = k + 1 from by omega, e2] at c2
  have c3 := fun W => refIn s (k : Int) 224 239 W hs (by omega)
  rw [Int.toNat_natCast, e3] at c3
  have c4 := fun W => refIn s (k : Int) 240 244 W hs (by omega)
  rw [Int.toNat_natCast, e4] at c4
  have C0 := Lib.hid c0
  have C1 := Lib.hid c1
  have C2 := Lib.hid c2
  have C3 := Lib.hid c3
  have C4 := Lib.hid c4
  clear c4 e4 c3 e3 c2 e2 c1 e1 c0 e0
  go_enter Tryz.func111, Tryz.ntmps111
  go_wp2_with fail
  refine (C0.out _).mono ?_
  rintro e w' ⟨rfl, rfl⟩
  go_wp2_with fail
  refine (C1.out _).mono ?_
  rintro e w' ⟨rfl, rfl⟩
  go_wp2_with fail
  refine (C2.out _).mono ?_
  rintro e w' ⟨rfl, rfl⟩
  go_wp2_with fail
  refine (C3.out _).mono ?_
  rintro e w' ⟨rfl, rfl⟩
  go_wp2_with fail
  refine (C4.out _).mono ?_
  rintro e w' ⟨rfl, rfl⟩
  go_wp2_with fail
  go_ret
  exact ⟨rfl, rfl⟩

set_option maxHeartbeats 1000000 in
theorem size3 (s : ByteArray) (k : Nat) (w : World) (hs : s.size ≤ 140737488351232) (hk : k ≤ s.size) (e0 : U.rng s.data.toList k 0 127 = false) (e1 : U.rng s.data.toList k 194 223 = false) (e2 : U.rng s.data.toList k 224 239 = true) (e3 : U.second (s.data.toList.drop k) = true) (e4 : tl s.data.toList (k + 2) 1 = true) :
    Calls Tryz.prog 111 #[.string s, .int .i64 k] w fun e w' => e = .returned (.int .i64 3) ∧ w = w' := by
  have c0 := fun W => refIn s (k : Int) 0 127 W hs (by omega)
  rw [Int.toNat_natCast, e0] at c0
  have c1 := fun W => refIn s (k : Int) 194 223 W hs (by omega)
  rw [Int.toNat_natCast, e1] at c1
  have c2 := fun W => refIn s (k : Int) 224 239 W hs (by omega)
  rw [Int.toNat_natCast, e2] at c2
  have c3 := fun W => refSecond s (k : Int) W hs (by omega) (by have := rng_lt e2; omega)
  rw [Int.toNat_natCast, e3] at c3
  have c4 := fun W => refTail s ((k : Int) + 2) 1 W hs (by omega) (by omega) (by omega)
  rw [show ((k : Int) + 2).toNat = k + 2 from by omega, e4] at c4
  have C0 := Lib.hid c0
  have C1 := Lib.hid c1
  have C2 := Lib.hid c2
  have C3 := Lib.hid c3
  have C4 := Lib.hid c4
  clear c4 e4 c3 e3 c2 e2 c1 e1 c0 e0
  go_enter Tryz.func111, Tryz.ntmps111
  go_wp2_with fail
  refine (C0.out _).mono ?_
  rintro e w' ⟨rfl, rfl⟩
  go_wp2_with fail
  refine (C1.out _).mono ?_
  rintro e w' ⟨rfl, rfl⟩
  go_wp2_with fail
  refine (C2.out _).mono ?_
  rintro e w' ⟨rfl, rfl⟩
  go_wp2_with fail
  refine (C3.out _).mono ?_
  rintro e w' ⟨rfl, rfl⟩
  go_wp2_with fail
  refine (C4.out _).mono ?_
  rintro e w' ⟨rfl, rfl⟩
  go_wp2_with fail
  go_ret
  exact ⟨rfl, rfl⟩

set_option maxHeartbeats 1000000 in
theorem size4 (s : ByteArray) (k : Nat) (w : World) (hs : s.size ≤ 140737488351232) (hk : k ≤ s.size) (e0 : U.rng s.data.toList k 0 127 = false) (e1 : U.rng s.data.toList k 194 223 = false) (e2 : U.rng s.data.toList k 224 239 = true) (e3 : U.second (s.data.toList.drop k) = true) (e4 : tl s.data.toList (k + 2) 1 = false) (e5 : U.rng s.data.toList k 240 244 = false) :
    Calls Tryz.prog 111 #[.string s, .int .i64 k] w fun e w' => e = .returned (.int .i64 0) ∧ w = w' := by
  have c0 := fun W => refIn s (k : Int) 0 127 W hs (by omega)
  rw [Int.toNat_natCast, e0] at c0
  have c1 := fun W => refIn s (k : Int) 194 223 W hs (by omega)
  rw [Int.toNat_natCast, e1] at c1
  have c2 := fun W => refIn s (k : Int) 224 239 W hs (by omega)
  rw [Int.toNat_natCast, e2] at c2
  have c3 := fun W => refSecond s (k : Int) W hs (by omega) (by have := rng_lt e2; omega)
  rw [Int.toNat_natCast, e3] at c3
  have c4 := fun W => refTail s ((k : Int) + 2) 1 W hs (by omega) (by omega) (by omega)
  rw [show ((k : Int) + 2).toNat = k + 2 from by omega, e4] at c4
  have c5 := fun W => refIn s (k : Int) 240 244 W hs (by omega)
  rw [Int.toNat_natCast, e5] at c5
  have C0 := Lib.hid c0
  have C1 := Lib.hid c1
  have C2 := Lib.hid c2
  have C3 := Lib.hid c3
  have C4 := Lib.hid c4
  have C5 := Lib.hid c5
  clear c5 e5 c4 e4 c3 e3 c2 e2 c1 e1 c0 e0
  go_enter Tryz.func111, Tryz.ntmps111
  go_wp2_with fail
  refine (C0.out _).mono ?_
  rintro e w' ⟨rfl, rfl⟩
  go_wp2_with fail
  refine (C1.out _).mono ?_
  rintro e w' ⟨rfl, rfl⟩
  go_wp2_with fail
  refine (C2.out _).mono ?_
  rintro e w' ⟨rfl, rfl⟩
  go_wp2_with fail
  refine (C3.out _).mono ?_
  rintro e w' ⟨rfl, rfl⟩
  go_wp2_with fail
  refine (C4.out _).mono ?_
  rintro e w' ⟨rfl, rfl⟩
  go_wp2_with fail
  refine (C5.out _).mono ?_
  rintro e w' ⟨rfl, rfl⟩
  go_wp2_with fail
  go_ret
  exact ⟨rfl, rfl⟩

set_option maxHeartbeats 1000000 in
theorem size5 (s : ByteArray) (k : Nat) (w : World) (hs : s.size ≤ 140737488351232) (hk : k ≤ s.size) (e0 : U.rng s.data.toList k 0 127 = false) (e1 : U.rng s.data.toList k 194 223 = false) (e2 : U.rng s.data.toList k 224 239 = true) (e3 : U.second (s.data.toList.drop k) = false) (e4 : U.rng s.data.toList k 240 244 = false) :
    Calls Tryz.prog 111 #[.string s, .int .i64 k] w fun e w' => e = .returned (.int .i64 0) ∧ w = w' := by
  have c0 := fun W => refIn s (k : Int) 0 127 W hs (by omega)
  rw [Int.toNat_natCast, e0] at c0
  have c1 := fun W => refIn s (k : Int) 194 223 W hs (by omega)
  rw [Int.toNat_natCast, e1] at c1
  have c2 := fun W => refIn s (k : Int) 224 239 W hs (by omega)
  rw [Int.toNat_natCast, e2] at c2
  have c3 := fun W => refSecond s (k : Int) W hs (by omega) (by have := rng_lt e2; omega)
  rw [Int.toNat_natCast, e3] at c3
  have c4 := fun W => refIn s (k : Int) 240 244 W hs (by omega)
  rw [Int.toNat_natCast, e4] at c4
  have C0 := Lib.hid c0
  have C1 := Lib.hid c1
  have C2 := Lib.hid c2
  have C3 := Lib.hid c3
  have C4 := Lib.hid c4
  clear c4 e4 c3 e3 c2 e2 c1 e1 c0 e0
  go_enter Tryz.func111, Tryz.ntmps111
  go_wp2_with fail
  refine (C0.out _).mono ?_
  rintro e w' ⟨rfl, rfl⟩
  go_wp2_with fail
  refine (C1.out _).mono ?_
  rintro e w' ⟨rfl, rfl⟩
  go_wp2_with fail
  refine (C2.out _).mono ?_
  rintro e w' ⟨rfl, rfl⟩
  go_wp2_with fail
  refine (C3.out _).mono ?_
  rintro e w' ⟨rfl, rfl⟩
  go_wp2_with fail
  refine (C4.out _).mono ?_
  rintro e w' ⟨rfl, rfl⟩
  go_wp2_with fail
  go_ret
  exact ⟨rfl, rfl⟩

set_option maxHeartbeats 1000000 in
theorem size6 (s : ByteArray) (k : Nat) (w : World) (hs : s.size ≤ 140737488351232) (hk : k ≤ s.size) (e0 : U.rng s.data.toList k 0 127 = false) (e1 : U.rng s.data.toList k 194 223 = false) (e2 : U.rng s.data.toList k 224 239 = false) (e3 : U.rng s.data.toList k 240 244 = true) (e4 : U.second (s.data.toList.drop k) = true) (e5 : tl s.data.toList (k + 2) 2 = true) :
    Calls Tryz.prog 111 #[.string s, .int .i64 k] w fun e w' => e = .returned (.int .i64 4) ∧ w = w' := by
  have c0 := fun W => refIn s (k : Int) 0 127 W hs (by omega)
  rw [Int.toNat_natCast, e0] at c0
  have c1 := fun W => refIn s (k : Int) 194 223 W hs (by omega)
  rw [Int.toNat_natCast, e1] at c1
  have c2 := fun W => refIn s (k : Int) 224 239 W hs (by omega)
  rw [Int.toNat_natCast, e2] at c2
  have c3 := fun W => refIn s (k : Int) 240 244 W hs (by omega)
  rw [Int.toNat_natCast, e3] at c3
  have c4 := fun W => refSecond s (k : Int) W hs (by omega) (by have := rng_lt e3; omega)
  rw [Int.toNat_natCast, e4] at c4
  have c5 := fun W => refTail s ((k : Int) + 2) 2 W hs (by omega) (by omega) (by omega)
  rw [show ((k : Int) + 2).toNat = k + 2 from by omega, e5] at c5
  have C0 := Lib.hid c0
  have C1 := Lib.hid c1
  have C2 := Lib.hid c2
  have C3 := Lib.hid c3
  have C4 := Lib.hid c4
  have C5 := Lib.hid c5
  clear c5 e5 c4 e4 c3 e3 c2 e2 c1 e1 c0 e0
  go_enter Tryz.func111, Tryz.ntmps111
  go_wp2_with fail
  refine (C0.out _).mono ?_
  rintro e w' ⟨rfl, rfl⟩
  go_wp2_with fail
  refine (C1.out _).mono ?_
  rintro e w' ⟨rfl, rfl⟩
  go_wp2_with fail
  refine (C2.out _).mono ?_
  rintro e w' ⟨rfl, rfl⟩
  go_wp2_with fail
  refine (C3.out _).mono ?_
  rintro e w' ⟨rfl, rfl⟩
  go_wp2_with fail
  refine (C4.out _).mono ?_
  rintro e w' ⟨rfl, rfl⟩
  go_wp2_with fail
  refine (C5.out _).mono ?_
  rintro e w' ⟨rfl, rfl⟩
  go_wp2_with fail
  go_ret
  exact ⟨rfl, rfl⟩

set_option maxHeartbeats 1000000 in
theorem size7 (s : ByteArray) (k : Nat) (w : World) (hs : s.size ≤ 140737488351232) (hk : k ≤ s.size) (e0 : U.rng s.data.toList k 0 127 = false) (e1 : U.rng s.data.toList k 194 223 = false) (e2 : U.rng s.data.toList k 224 239 = false) (e3 : U.rng s.data.toList k 240 244 = true) (e4 : U.second (s.data.toList.drop k) = true) (e5 : tl s.data.toList (k + 2) 2 = false) :
    Calls Tryz.prog 111 #[.string s, .int .i64 k] w fun e w' => e = .returned (.int .i64 0) ∧ w = w' := by
  have c0 := fun W => refIn s (k : Int) 0 127 W hs (by omega)
  rw [Int.toNat_natCast, e0] at c0
  have c1 := fun W => refIn s (k : Int) 194 223 W hs (by omega)
  rw [Int.toNat_natCast, e1] at c1
  have c2 := fun W => refIn s (k : Int) 224 239 W hs (by omega)
  rw [Int.toNat_natCast, e2] at c2
  have c3 := fun W => refIn s (k : Int) 240 244 W hs (by omega)
  rw [Int.toNat_natCast, e3] at c3
  have c4 := fun W => refSecond s (k : Int) W hs (by omega) (by have := rng_lt e3; omega)
  rw [Int.toNat_natCast, e4] at c4
  have c5 := fun W => refTail s ((k : Int) + 2) 2 W hs (by omega) (by omega) (by omega)
  rw [show ((k : Int) + 2).toNat = k + 2 from by omega, e5] at c5
  have C0 := Lib.hid c0
  have C1 := Lib.hid c1
  have C2 := Lib.hid c2
  have C3 := Lib.hid c3
  have C4 := Lib.hid c4
  have C5 := Lib.hid c5
  clear c5 e5 c4 e4 c3 e3 c2 e2 c1 e1 c0 e0
  go_enter Tryz.func111, Tryz.ntmps111
  go_wp2_with fail
  refine (C0.out _).mono ?_
  rintro e w' ⟨rfl, rfl⟩
  go_wp2_with fail
  refine (C1.out _).mono ?_
  rintro e w' ⟨rfl, rfl⟩
  go_wp2_with fail
  refine (C2.out _).mono ?_
  rintro e w' ⟨rfl, rfl⟩
  go_wp2_with fail
  refine (C3.out _).mono ?_
  rintro e w' ⟨rfl, rfl⟩
  go_wp2_with fail
  refine (C4.out _).mono ?_
  rintro e w' ⟨rfl, rfl⟩
  go_wp2_with fail
  refine (C5.out _).mono ?_
  rintro e w' ⟨rfl, rfl⟩
  go_wp2_with fail
  go_ret
  exact ⟨rfl, rfl⟩

set_option maxHeartbeats 1000000 in
theorem size8 (s : ByteArray) (k : Nat) (w : World) (hs : s.size ≤ 140737488351232) (hk : k ≤ s.size) (e0 : U.rng s.data.toList k 0 127 = false) (e1 : U.rng s.data.toList k 194 223 = false) (e2 : U.rng s.data.toList k 224 239 = false) (e3 : U.rng s.data.toList k 240 244 = true) (e4 : U.second (s.data.toList.drop k) = false) :
    Calls Tryz.prog 111 #[.string s, .int .i64 k] w fun e w' => e = .returned (.int .i64 0) ∧ w = w' := by
  have c0 := fun W => refIn s (k : Int) 0 127 W hs (by omega)
  rw [Int.toNat_natCast, e0] at c0
  have c1 := fun W => refIn s (k : Int) 194 223 W hs (by omega)
  rw [Int.toNat_natCast, e1] at c1
  have c2 := fun W => refIn s (k : Int) 224 239 W hs (by omega)
  rw [Int.toNat_natCast, e2] at c2
  have c3 := fun W => refIn s (k : Int) 240 244 W hs (by omega)
  rw [Int.toNat_natCast, e3] at c3
  have c4 := fun W => refSecond s (k : Int) W hs (by omega) (by have := rng_lt e3; omega)
  rw [Int.toNat_natCast, e4] at c4
  have C0 := Lib.hid c0
  have C1 := Lib.hid c1
  have C2 := Lib.hid c2
  have C3 := Lib.hid c3
  have C4 := Lib.hid c4
  clear c4 e4 c3 e3 c2 e2 c1 e1 c0 e0
  go_enter Tryz.func111, Tryz.ntmps111
  go_wp2_with fail
  refine (C0.out _).mono ?_
  rintro e w' ⟨rfl, rfl⟩
  go_wp2_with fail
  refine (C1.out _).mono ?_
  rintro e w' ⟨rfl, rfl⟩
  go_wp2_with fail
  refine (C2.out _).mono ?_
  rintro e w' ⟨rfl, rfl⟩
  go_wp2_with fail
  refine (C3.out _).mono ?_
  rintro e w' ⟨rfl, rfl⟩
  go_wp2_with fail
  refine (C4.out _).mono ?_
  rintro e w' ⟨rfl, rfl⟩
  go_wp2_with fail
  go_ret
  exact ⟨rfl, rfl⟩

set_option maxHeartbeats 1000000 in
theorem size9 (s : ByteArray) (k : Nat) (w : World) (hs : s.size ≤ 140737488351232) (hk : k ≤ s.size) (e0 : U.rng s.data.toList k 0 127 = false) (e1 : U.rng s.data.toList k 194 223 = false) (e2 : U.rng s.data.toList k 224 239 = false) (e3 : U.rng s.data.toList k 240 244 = false) :
    Calls Tryz.prog 111 #[.string s, .int .i64 k] w fun e w' => e = .returned (.int .i64 0) ∧ w = w' := by
  have c0 := fun W => refIn s (k : Int) 0 127 W hs (by omega)
  rw [Int.toNat_natCast, e0] at c0
  have c1 := fun W => refIn s (k : Int) 194 223 W hs (by omega)
  rw [Int.toNat_natCast, e1] at c1
  have c2 := fun W => refIn s (k : Int) 224 239 W hs (by omega)
  rw [Int.toNat_natCast, e2] at c2
  have c3 := fun W => refIn s (k : Int) 240 244 W hs (by omega)
  rw [Int.toNat_natCast, e3] at c3
  have C0 := Lib.hid c0
  have C1 := Lib.hid c1
  have C2 := Lib.hid c2
  have C3 := Lib.hid c3
  clear c3 e3 c2 e2 c1 e1 c0 e0
  go_enter Tryz.func111, Tryz.ntmps111
  go_wp2_with fail
  refine (C0.out _).mono ?_
  rintro e w' ⟨rfl, rfl⟩
  go_wp2_with fail
  refine (C1.out _).mono ?_
  rintro e w' ⟨rfl, rfl⟩
  go_wp2_with fail
  refine (C2.out _).mono ?_
  rintro e w' ⟨rfl, rfl⟩
  go_wp2_with fail
  refine (C3.out _).mono ?_
  rintro e w' ⟨rfl, rfl⟩
  go_wp2_with fail
  go_ret
  exact ⟨rfl, rfl⟩

theorem refSize (s : ByteArray) (i : Int) (w : World) (hs : s.size ≤ 140737488351232) (h0 : 0 ≤ i) (hi : i ≤ s.size) :
    Calls Tryz.prog 111 #[.string s, .int .i64 i] w fun e w' => e = .returned (.int .i64 (U.sz (s.data.toList.drop i.toNat))) ∧ w = w' := by
  obtain ⟨k, rfl⟩ := Int.eq_ofNat_of_zero_le h0
  rw [Int.toNat_natCast, sz_at]
  have hk : k ≤ s.size := by omega
  cases e0 : U.rng s.data.toList k 0 127 with
  | true => exact size0 s k w hs hk e0
  | false =>
    cases e1 : U.rng s.data.toList k 194 223 with
    | true =>
      cases e2 : tl s.data.toList (k + 1) 1 with
      | true => exact size1 s k w hs hk e0 e1 e2
      | false =>
        have e3 := rng_other (lo' := 224) (hi' := 239) e1 (by omega)
        have e4 := rng_other (lo' := 240) (hi' := 244) e1 (by omega)
        rw [e3, e4]
        exact size2 s k w hs hk e0 e1 e2 e3 e4
    | false =>
      cases e2 : U.rng s.data.toList k 224 239 with
      | true =>
        have e4 := rng_other (lo' := 240) (hi' := 244) e2 (by omega)
        rw [e4]
        cases e3 : U.second (s.data.toList.drop k) with
        | true =>
          cases e5 : tl s.data.toList (k + 2) 1 with
          | true => exact size3 s k w hs hk e0 e1 e2 e3 e5
          | false => exact size4 s k w hs hk e0 e1 e2 e3 e5 e4
        | false => exact size5 s k w hs hk e0 e1 e2 e3 e4
      | false =>
        cases e3 : U.rng s.data.toList k 240 244 with
        | true =>
          cases e4 : U.second (s.data.toList.drop k) with
          | true =>
            cases e5 : tl s.data.toList (k + 2) 2 with
            | true => exact size6 s k w hs hk e0 e1 e2 e3 e4 e5
            | false => exact size7 s k w hs hk e0 e1 e2 e3 e4 e5
          | false => exact size8 s k w hs hk e0 e1 e2 e3 e4
        | false => exact size9 s k w hs hk e0 e1 e2 e3

end T
end Go.Proofs.YtafkeolpadfjfaaGreatDoor
