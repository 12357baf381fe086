/- What unicode/utf8.FullRuneInString comes to, where Go's two tables of package utf8 lie as their texts lay them. -/
import Derived.Test.YtlnginciehjlnaaGreatDoorDecPlain
import Derived.Test.YtlnginciehjlnaaGreatDoorTRepair
import Derived.Deep.QuietTactic
import Derived.BigQuiet
import Derived.WalkSmall
set_option linter.unusedVariables false
set_option linter.unusedSimpArgs false
namespace Go.Proofs.YtlnginciehjlnaaGreatDoor
open Go.RowKit
namespace T

theorem below_dr {B : Nat} {a w : World} (h : Below B a w) (q : Nat) : Below B a (w.drewN q) := ⟨h.os, h.tape, h.output, h.size, h.block⟩

set_option maxHeartbeats 1000000 in
set_option maxRecDepth 100000 in
theorem FR_early240 (s : ByteArray) (x0 : UInt8) (w : World) (hs : s.size ≤ 1000000) (h0 : 0 < s.size) (hs0 : s[0] = x0) (hc0 : w.cell? ⟨0, x0.toNat, none⟩ = some (.int .u8 240)) (hn : 0 ≤ s.size) :
    Calls Tryz.prog 61 #[.string s] w fun e w' => e = .returned (.bool true) ∧ Below w.heap.size w w' := by
  have l0 := x0.toNat_lt
  have hz0 : (0 : Int) < (s.size : Int) := by omega
  have hz2 : (0 : Int) ≤ (s.size : Int) := by omega
  have hne : ((s.size : Int) == 0) = false := beq_eq_false_iff_ne.2 (by omega)
  go_enter Tryz.func61, Tryz.ntmps61
  go_wp2
  go_ret
  exact ⟨rfl, Below.refl _ _⟩

set_option maxHeartbeats 1000000 in
set_option maxRecDepth 100000 in
theorem FR_early241 (s : ByteArray) (x0 : UInt8) (w : World) (hs : s.size ≤ 1000000) (h0 : 0 < s.size) (hs0 : s[0] = x0) (hc0 : w.cell? ⟨0, x0.toNat, none⟩ = some (.int .u8 241)) (hn : 1 ≤ s.size) :
    Calls Tryz.prog 61 #[.string s] w fun e w' => e = .returned (.bool true) ∧ Below w.heap.size w w' := by
  have l0 := x0.toNat_lt
  have hz0 : (0 : Int) < (s.size : Int) := by omega
  have hz2 : (1 : Int) ≤ (s.size : Int) := by omega
  have hne : ((s.size : Int) == 0) = false := beq_eq_false_iff_ne.2 (by omega)
  go_enter Tryz.func61, Tryz.ntmps61
  go_wp2
  go_ret
  exact ⟨rfl, Below.refl _ _⟩

set_option maxHeartbeats 1000000 in
set_option maxRecDepth 100000 in
theorem FR_early2 (s : ByteArray) (x0 : UInt8) (w : World) (hs : s.size ≤ 1000000) (h0 : 0 < s.size) (hs0 : s[0] = x0) (hc0 : w.cell? ⟨0, x0.toNat, none⟩ = some (.int .u8 2)) (hn : 2 ≤ s.size) :
    Calls Tryz.prog 61 #[.string s] w fun e w' => e = .returned (.bool true) ∧ Below w.heap.size w w' := by
  have l0 := x0.toNat_lt
  have hz0 : (0 : Int) < (s.size : Int) := by omega
  have hz2 : (2 : Int) ≤ (s.size : Int) := by omega
  have hne : ((s.size : Int) == 0) = false := beq_eq_false_iff_ne.2 (by omega)
  go_enter Tryz.func61, Tryz.ntmps61
  go_wp2
  go_ret
  exact ⟨rfl, Below.refl _ _⟩

set_option maxHeartbeats 1000000 in
set_option maxRecDepth 100000 in
theorem FR_one2 (s : ByteArray) (x0 : UInt8) (w : World) (h0 : 0 < s.size) (hs0 : s[0] = x0) (hc0 : w.cell? ⟨0, x0.toNat, none⟩ = some (.int .u8 2)) (ha0 : w.cell? ⟨1, 0, none⟩ = some (.int .u8 128)) (ha1 : w.cell? ⟨1, 1, none⟩ = some (.int .u8 191)) (hn : s.size < 2) (h1 : s.size ≤ 1) :
    Calls Tryz.prog 61 #[.string s] w fun e w' => e = .returned (.bool false) ∧ Below w.heap.size w w' := by
  have l0 := x0.toNat_lt
  have hz0 : (0 : Int) < (s.size : Int) := by omega
  have hz1 : (s.size : Int) < 2 := by omega
  have hne : ((s.size : Int) == 0) = false := beq_eq_false_iff_ne.2 (by omega)
  have g1 : decide ((1 : Int) < (s.size : Int)) = false := decide_eq_false (by omega)
  have g2 : decide ((2 : Int) < (s.size : Int)) = false := decide_eq_false (by omega)
  go_enter Tryz.func61, Tryz.ntmps61
  go_wp2
  go_quiet (fail)
  go_wp2
  go_ret
  exact ⟨rfl, below_dr ((Below.refl _ _).alloc (Nat.le_refl _) _) _⟩

set_option maxHeartbeats 1000000 in
set_option maxRecDepth 100000 in
theorem FR_early19 (s : ByteArray) (x0 : UInt8) (w : World) (hs : s.size ≤ 1000000) (h0 : 0 < s.size) (hs0 : s[0] = x0) (hc0 : w.cell? ⟨0, x0.toNat, none⟩ = some (.int .u8 19)) (hn : 3 ≤ s.size) :
    Calls Tryz.prog 61 #[.string s] w fun e w' => e = .returned (.bool true) ∧ Below w.heap.size w w' := by
  have l0 := x0.toNat_lt
  have hz0 : (0 : Int) < (s.size : Int) := by omega
  have hz2 : (3 : Int) ≤ (s.size : Int) := by omega
  have hne : ((s.size : Int) == 0) = false := beq_eq_false_iff_ne.2 (by omega)
  go_enter Tryz.func61, Tryz.ntmps61
  go_wp2
  go_ret
  exact ⟨rfl, Below.refl _ _⟩

set_option maxHeartbeats 1000000 in
set_option maxRecDepth 100000 in
theorem FR_one19 (s : ByteArray) (x0 : UInt8) (w : World) (h0 : 0 < s.size) (hs0 : s[0] = x0) (hc0 : w.cell? ⟨0, x0.toNat, none⟩ = some (.int .u8 19)) (ha0 : w.cell? ⟨1, 2, none⟩ = some (.int .u8 160)) (ha1 : w.cell? ⟨1, 3, none⟩ = some (.int .u8 191)) (hn : s.size < 3) (h1 : s.size ≤ 1) :
    Calls Tryz.prog 61 #[.string s] w fun e w' => e = .returned (.bool false) ∧ Below w.heap.size w w' := by
  have l0 := x0.toNat_lt
  have hz0 : (0 : Int) < (s.size : Int) := by omega
  have hz1 : (s.size : Int) < 3 := by omega
  have hne : ((s.size : Int) == 0) = false := beq_eq_false_iff_ne.2 (by omega)
  have g1 : decide ((1 : Int) < (s.size : Int)) = false := decide_eq_false (by omega)
  have g2 : decide ((2 : Int) < (s.size : Int)) = false := decide_eq_false (by omega)
  go_enter Tryz.func61, Tryz.ntmps61
  go_wp2
  go_quiet (fail)
  go_wp2
  go_ret
  exact ⟨rfl, below_dr ((Below.refl _ _).alloc (Nat.le_refl _) _) _⟩

set_option maxHeartbeats 1000000 in
set_option maxRecDepth 100000 in
theorem FR_lo19 (s : ByteArray) (x0 : UInt8) (w : World) (h0 : 0 < s.size) (hs0 : s[0] = x0) (hc0 : w.cell? ⟨0, x0.toNat, none⟩ = some (.int .u8 19)) (ha0 : w.cell? ⟨1, 2, none⟩ = some (.int .u8 160)) (ha1 : w.cell? ⟨1, 3, none⟩ = some (.int .u8 191)) (hn : s.size < 3) (x1 : UInt8) (h1 : 1 < s.size) (hs1 : s[1] = x1) (hlo : x1.toNat < 160) :
    Calls Tryz.prog 61 #[.string s] w fun e w' => e = .returned (.bool true) ∧ Below w.heap.size w w' := by
  have l0 := x0.toNat_lt
  have hz0 : (0 : Int) < (s.size : Int) := by omega
  have hz1 : (s.size : Int) < 3 := by omega
  have hne : ((s.size : Int) == 0) = false := beq_eq_false_iff_ne.2 (by omega)
  have l1 := x1.toNat_lt
  have hz3 : (1 : Int) < (s.size : Int) := by omega
  have g1 : decide ((1 : Int) < (s.size : Int)) = true := decide_eq_true (by omega)
  have g3 : decide ((x1.toNat : Int) < 160) = true := decide_eq_true (by omega)
  go_enter Tryz.func61, Tryz.ntmps61
  go_wp2
  go_quiet (fail)
  go_wp2
  go_ret
  exact ⟨rfl, below_dr ((Below.refl _ _).alloc (Nat.le_refl _) _) _⟩

set_option maxHeartbeats 1000000 in
set_option maxRecDepth 100000 in
theorem FR_hi19 (s : ByteArray) (x0 : UInt8) (w : World) (h0 : 0 < s.size) (hs0 : s[0] = x0) (hc0 : w.cell? ⟨0, x0.toNat, none⟩ = some (.int .u8 19)) (ha0 : w.cell? ⟨1, 2, none⟩ = some (.int .u8 160)) (ha1 : w.cell? ⟨1, 3, none⟩ = some (.int .u8 191)) (hn : s.size < 3) (x1 : UInt8) (h1 : 1 < s.size) (hs1 : s[1] = x1) (hlo : 160 ≤ x1.toNat) (hhi : 191 < x1.toNat) :
    Calls Tryz.prog 61 #[.string s] w fun e w' => e = .returned (.bool true) ∧ Below w.heap.size w w' := by
  have l0 := x0.toNat_lt
  have hz0 : (0 : Int) < (s.size : Int) := by omega
  have hz1 : (s.size : Int) < 3 := by omega
  have hne : ((s.size : Int) == 0) = false := beq_eq_false_iff_ne.2 (by omega)
  have l1 := x1.toNat_lt
  have hz3 : (1 : Int) < (s.size : Int) := by omega
  have g1 : decide ((1 : Int) < (s.size : Int)) = true := decide_eq_true (by omega)
  have g3 : decide ((x1.toNat : Int) < 160) = false := decide_eq_false (by omega)
  have g4 : decide ((191 : Int) < (x1.toNat : Int)) = true := decide_eq_true (by omega)
  go_enter Tryz.func61, Tryz.ntmps61
  go_wp2
  go_quiet (fail)
  go_wp2
  go_ret
  exact ⟨rfl, below_dr ((Below.refl _ _).alloc (Nat.le_refl _) _) _⟩

set_option maxHeartbeats 1000000 in
set_option maxRecDepth 100000 in
theorem FR_two19 (s : ByteArray) (x0 : UInt8) (w : World) (h0 : 0 < s.size) (hs0 : s[0] = x0) (hc0 : w.cell? ⟨0, x0.toNat, none⟩ = some (.int .u8 19)) (ha0 : w.cell? ⟨1, 2, none⟩ = some (.int .u8 160)) (ha1 : w.cell? ⟨1, 3, none⟩ = some (.int .u8 191)) (hn : s.size < 3) (x1 : UInt8) (h1 : 1 < s.size) (hs1 : s[1] = x1) (hlo : 160 ≤ x1.toNat) (hhi : x1.toNat ≤ 191) (h2 : s.size ≤ 2) :
    Calls Tryz.prog 61 #[.string s] w fun e w' => e = .returned (.bool false) ∧ Below w.heap.size w w' := by
  have l0 := x0.toNat_lt
  have hz0 : (0 : Int) < (s.size : Int) := by omega
  have hz1 : (s.size : Int) < 3 := by omega
  have hne : ((s.size : Int) == 0) = false := beq_eq_false_iff_ne.2 (by omega)
  have l1 := x1.toNat_lt
  have hz3 : (1 : Int) < (s.size : Int) := by omega
  have g1 : decide ((1 : Int) < (s.size : Int)) = true := decide_eq_true (by omega)
  have g3 : decide ((x1.toNat : Int) < 160) = false := decide_eq_false (by omega)
  have g4 : decide ((191 : Int) < (x1.toNat : Int)) = false := decide_eq_false (by omega)
  have g2 : decide ((2 : Int) < (s.size : Int)) = false := decide_eq_false (by omega)
  go_enter Tryz.func61, Tryz.ntmps61
  go_wp2
  go_quiet (fail)
  go_wp2
  go_ret
  exact ⟨rfl, below_dr ((Below.refl _ _).alloc (Nat.le_refl _) _) _⟩

set_option maxHeartbeats 1000000 in
set_option maxRecDepth 100000 in
theorem FR_early3 (s : ByteArray) (x0 : UInt8) (w : World) (hs : s.size ≤ 1000000) (h0 : 0 < s.size) (hs0 : s[0] = x0) (hc0 : w.cell? ⟨0, x0.toNat, none⟩ = some (.int .u8 3)) (hn : 3 ≤ s.size) :
    Calls Tryz.prog 61 #[.string s] w fun e w' => e = .returned (.bool true) ∧ Below w.heap.size w w' := by
  have l0 := x0.toNat_lt
  have hz0 : (0 : Int) < (s.size : Int) := by omega
  have hz2 : (3 : Int) ≤ (s.size : Int) := by omega
  have hne : ((s.size : Int) == 0) = false := beq_eq_false_iff_ne.2 (by omega)
  go_enter Tryz.func61, Tryz.ntmps61
  go_wp2
  go_ret
  exact ⟨rfl, Below.refl _ _⟩

set_option maxHeartbeats 1000000 in
set_option maxRecDepth 100000 in
theorem FR_one3 (s : ByteArray) (x0 : UInt8) (w : World) (h0 : 0 < s.size) (hs0 : s[0] = x0) (hc0 : w.cell? ⟨0, x0.toNat, none⟩ = some (.int .u8 3)) (ha0 : w.cell? ⟨1, 0, none⟩ = some (.int .u8 128)) (ha1 : w.cell? ⟨1, 1, none⟩ = some (.int .u8 191)) (hn : s.size < 3) (h1 : s.size ≤ 1) :
    Calls Tryz.prog 61 #[.string s] w fun e w' => e = .returned (.bool false) ∧ Below w.heap.size w w' := by
  have l0 := x0.toNat_lt
  have hz0 : (0 : Int) < (s.size : Int) := by omega
  have hz1 : (s.size : Int) < 3 := by omega
  have hne : ((s.size : Int) == 0) = false := beq_eq_false_iff_ne.2 (by omega)
  have g1 : decide ((1 : Int) < (s.size : Int)) = false := decide_eq_false (by omega)
  have g2 : decide ((2 : Int) < (s.size : Int)) = false := decide_eq_false (by omega)
  go_enter Tryz.func61, Tryz.ntmps61
  go_wp2
  go_quiet (fail)
  go_wp2
  go_ret
  exact ⟨rfl, below_dr ((Below.refl _ _).alloc (Nat.le_refl _) _) _⟩

set_option maxHeartbeats 1000000 in
set_option maxRecDepth 100000 in
theorem FR_lo3 (s : ByteArray) (x0 : UInt8) (w : World) (h0 : 0 < s.size) (hs0 : s[0] = x0) (hc0 : w.cell? ⟨0, x0.toNat, none⟩ = some (.int .u8 3)) (ha0 : w.cell? ⟨1, 0, none⟩ = some (.int .u8 128)) (ha1 : w.cell? ⟨1, 1, none⟩ = some (.int .u8 191)) (hn : s.size < 3) (x1 : UInt8) (h1 : 1 < s.size) (hs1 : s[1] = x1) (hlo : x1.toNat < 128) :
    Calls Tryz.prog 61 #[.string s] w fun e w' => e = .returned (.bool true) ∧ Below w.heap.size w w' := by
  have l0 := x0.toNat_lt
  have hz0 : (0 : Int) < (s.size : Int) := by omega
  have hz1 : (s.size : Int) < 3 := by omega
  have hne : ((s.size : Int) == 0) = false := beq_eq_false_iff_ne.2 (by omega)
  have l1 := x1.toNat_lt
  have hz3 : (1 : Int) < (s.size : Int) := by omega
  have g1 : decide ((1 : Int) < (s.size : Int)) = true := decide_eq_true (by omega)
  have g3 : decide ((x1.toNat : Int) < 128) = true := decide_eq_true (by omega)
  go_enter Tryz.func61, Tryz.ntmps61
  go_wp2
  go_quiet (fail)
  go_wp2
  go_ret
  exact ⟨rfl, below_dr ((Below.refl _ _).alloc (Nat.le_refl _) _) _⟩

set_option maxHeartbeats 1000000 in
set_option maxRecDepth 100000 in
theorem FR_hi3 (s : ByteArray) (x0 : UInt8) (w : World) (h0 : 0 < s.size) (hs0 : s[0] = x0) (hc0 : w.cell? ⟨0, x0.toNat, none⟩ = some (.int .u8 3)) (ha0 : w.cell? ⟨1, 0, none⟩ = some (.int .u8 128)) (ha1 : w.cell? ⟨1, 1, none⟩ = some (.int .u8 191)) (hn : s.size < 3) (x1 : UInt8) (h1 : 1 < s.size) (hs1 : s[1] = x1) (hlo : 128 ≤ x1.toNat) (hhi : 191 < x1.toNat) :
    Calls Tryz.prog 61 #[.string s] w fun e w' => e = .returned (.bool true) ∧ Below w.heap.size w w' := by
  have l0 := x0.toNat_lt
  have hz0 : (0 : Int) < (s.size : Int) := by omega
  have hz1 : (s.size : Int) < 3 := by omega
  have hne : ((s.size : Int) == 0) = false := beq_eq_false_iff_ne.2 (by omega)
  have l1 := x1.toNat_lt
  have hz3 : (1 : Int) < (s.size : Int) := by omega
  have g1 : decide ((1 : Int) < (s.size : Int)) = true := decide_eq_true (by omega)
  have g3 : decide ((x1.toNat : Int) < 128) = false := decide_eq_false (by omega)
  have g4 : decide ((191 : Int) < (x1.toNat : Int)) = true := decide_eq_true (by omega)
  go_enter Tryz.func61, Tryz.ntmps61
  go_wp2
  go_quiet (fail)
  go_wp2
  go_ret
  exact ⟨rfl, below_dr ((Below.refl _ _).alloc (Nat.le_refl _) _) _⟩

set_option maxHeartbeats 1000000 in
set_option maxRecDepth 100000 in
theorem FR_two3 (s : ByteArray) (x0 : UInt8) (w : World) (h0 : 0 < s.size) (hs0 : s[0] = x0) (hc0 : w.cell? ⟨0, x0.toNat, none⟩ = some (.int .u8 3)) (ha0 : w.cell? ⟨1, 0, none⟩ = some (.int .u8 128)) (ha1 : w.cell? ⟨1, 1, none⟩ = some (.int .u8 191)) (hn : s.size < 3) (x1 : UInt8) (h1 : 1 < s.size) (hs1 : s[1] = x1) (hlo : 128 ≤ x1.toNat) (hhi : x1.toNat ≤ 191) (h2 : s.size ≤ 2) :
    Calls Tryz.prog 61 #[.string s] w fun e w' => e = .returned (.bool false) ∧ Below w.heap.size w w' := by
  have l0 := x0.toNat_lt
  have hz0 : (0 : Int) < (s.size : Int) := by omega
  have hz1 : (s.size : Int) < 3 := by omega
  have hne : ((s.size : Int) == 0) = false := beq_eq_false_iff_ne.2 (by omega)
  have l1 := x1.toNat_lt
  have hz3 : (1 : Int) < (s.size : Int) := by omega
  have g1 : decide ((1 : Int) < (s.size : Int)) = true := decide_eq_true (by omega)
  have g3 : decide ((x1.toNat : Int) < 128) = false := decide_eq_false (by omega)
  have g4 : decide ((191 : Int) < (x1.toNat : Int)) = false := decide_eq_false (by omega)
  have g2 : decide ((2 : Int) < (s.size : Int)) = false := decide_eq_false (by omega)
  go_enter Tryz.func61, Tryz.ntmps61
  go_wp2
  go_quiet (fail)
  go_wp2
  go_ret
  exact ⟨rfl, below_dr ((Below.refl _ _).alloc (Nat.le_refl _) _) _⟩

set_option maxHeartbeats 1000000 in
set_option maxRecDepth 100000 in
theorem FR_early35 (s : ByteArray) (x0 : UInt8) (w : World) (hs : s.size ≤ 1000000) (h0 : 0 < s.size) (hs0 : s[0] = x0) (hc0 : w.cell? ⟨0, x0.toNat, none⟩ = some (.int .u8 35)) (hn : 3 ≤ s.size) :
    Calls Tryz.prog 61 #[.string s] w fun e w' => e = .returned (.bool true) ∧ Below w.heap.size w w' := by
  have l0 := x0.toNat_lt
  have hz0 : (0 : Int) < (s.size : Int) := by omega
  have hz2 : (3 : Int) ≤ (s.size : Int) := by omega
  have hne : ((s.size : Int) == 0) = false := beq_eq_false_iff_ne.2 (by omega)
  go_enter Tryz.func61, Tryz.ntmps61
  go_wp2
  go_ret
  exact ⟨rfl, Below.refl _ _⟩

set_option maxHeartbeats 1000000 in
set_option maxRecDepth 100000 in
theorem FR_one35 (s : ByteArray) (x0 : UInt8) (w : World) (h0 : 0 < s.size) (hs0 : s[0] = x0) (hc0 : w.cell? ⟨0, x0.toNat, none⟩ = some (.int .u8 35)) (ha0 : w.cell? ⟨1, 4, none⟩ = some (.int .u8 128)) (ha1 : w.cell? ⟨1, 5, none⟩ = some (.int .u8 159)) (hn : s.size < 3) (h1 : s.size ≤ 1) :
    Calls Tryz.prog 61 #[.string s] w fun e w' => e = .returned (.bool false) ∧ Below w.heap.size w w' := by
  have l0 := x0.toNat_lt
  have hz0 : (0 : Int) < (s.size : Int) := by omega
  have hz1 : (s.size : Int) < 3 := by omega
  have hne : ((s.size : Int) == 0) = false := beq_eq_false_iff_ne.2 (by omega)
  have g1 : decide ((1 : Int) < (s.size : Int)) = false := decide_eq_false (by omega)
  have g2 : decide ((2 : Int) < (s.size : Int)) = false := decide_eq_false (by omega)
  go_enter Tryz.func61, Tryz.ntmps61
  go_wp2
  go_quiet (fail)
  go_wp2
  go_ret
  exact ⟨rfl, below_dr ((Below.refl _ _).alloc (Nat.le_refl _) _) _⟩

set_option maxHeartbeats 1000000 in
set_option maxRecDepth 100000 in
theorem FR_lo35 (s : ByteArray) (x0 : UInt8) (w : World) (h0 : 0 < s.size) (hs0 : s[0] = x0) (hc0 : w.cell? ⟨0, x0.toNat, none⟩ = some (.int .u8 35)) (ha0 : w.cell? ⟨1, 4, none⟩ = some (.int .u8 128)) (ha1 : w.cell? ⟨1, 5, none⟩ = some (.int .u8 159)) (hn : s.size < 3) (x1 : UInt8) (h1 : 1 < s.size) (hs1 : s[1] = x1) (hlo : x1.toNat < 128) :
    Calls Tryz.prog 61 #[.string s] w fun e w' => e = .returned (.bool true) ∧ Below w.heap.size w w' := by
  have l0 := x0.toNat_lt
  have hz0 : (0 : Int) < (s.size : Int) := by omega
  have hz1 : (s.size : Int) < 3 := by omega
  have hne : ((s.size : Int) == 0) = false := beq_eq_false_iff_ne.2 (by omega)
  have l1 := x1.toNat_lt
  have hz3 : (1 : Int) < (s.size : Int) := by omega
  have g1 : decide ((1 : Int) < (s.size : Int)) = true := decide_eq_true (by omega)
  have g3 : decide ((x1.toNat : Int) < 128) = true := decide_eq_true (by omega)
  go_enter Tryz.func61, Tryz.ntmps61
  go_wp2
  go_quiet (fail)
  go_wp2
  go_ret
  exact ⟨rfl, below_dr ((Below.refl _ _).alloc (Nat.le_refl _) _) _⟩

set_option maxHeartbeats 1000000 in
set_option maxRecDepth 100000 in
theorem FR_hi35 (s : ByteArray) (x0 : UInt8) (w : World) (h0 : 0 < s.size) (hs0 : s[0] = x0) (hc0 : w.cell? ⟨0, x0.toNat, none⟩ = some (.int .u8 35)) (ha0 : w.cell? ⟨1, 4, none⟩ = some (.int .u8 128)) (ha1 : w.cell? ⟨1, 5, none⟩ = some (.int .u8 159)) (hn : s.size < 3) (x1 : UInt8) (h1 : 1 < s.size) (hs1 : s[1] = x1) (hlo : 128 ≤ x1.toNat) (hhi : 159 < x1.toNat) :
    Calls Tryz.prog 61 #[.string s] w fun e w' => e = .returned (.bool true) ∧ Below w.heap.size w w' := by
  have l0 := x0.toNat_lt
  have hz0 : (0 : Int) < (s.size : Int) := by omega
  have hz1 : (s.size : Int) < 3 := by omega
  have hne : ((s.size : Int) == 0) = false := beq_eq_false_iff_ne.2 (by omega)
  have l1 := x1.toNat_lt
  have hz3 : (1 : Int) < (s.size : Int) := by omega
  have g1 : decide ((1 : Int) < (s.size : Int)) = true := decide_eq_true (by omega)
  have g3 : decide ((x1.toNat : Int) < 128) = false := decide_eq_false (by omega)
  have g4 : decide ((159 : Int) < (x1.toNat : Int)) = true := decide_eq_true (by omega)
  go_enter Tryz.func61, Tryz.ntmps61
  go_wp2
  go_quiet (fail)
  go_wp2
  go_ret
  exact ⟨rfl, below_dr ((Below.refl _ _).alloc (Nat.le_refl _) _) _⟩

set_option maxHeartbeats 1000000 in
set_option maxRecDepth 100000 in
theorem FR_two35 (s : ByteArray) (x0 : UInt8) (w : World) (h0 : 0 < s.size) (hs0 : s[0] = x0) (hc0 : w.cell? ⟨0, x0.toNat, none⟩ = some (.int .u8 35)) (ha0 : w.cell? ⟨1, 4, none⟩ = some (.int .u8 128)) (ha1 : w.cell? ⟨1, 5, none⟩ = some (.int .u8 159)) (hn : s.size < 3) (x1 : UInt8) (h1 : 1 < s.size) (hs1 : s[1] = x1) (hlo : 128 ≤ x1.toNat) (hhi : x1.toNat ≤ 159) (h2 : s.size ≤ 2) :
    Calls Tryz.prog 61 #[.string s] w fun e w' => e = .returned (.bool false) ∧ Below w.heap.size w w' := by
  have l0 := x0.toNat_lt
  have hz0 : (0 : Int) < (s.size : Int) := by omega
  have hz1 : (s.size : Int) < 3 := by omega
  have hne : ((s.size : Int) == 0) = false := beq_eq_false_iff_ne.2 (by omega)
  have l1 := x1.toNat_lt
  have hz3 : (1 : Int) < (s.size : Int) := by omega
  have g1 : decide ((1 : Int) < (s.size : Int)) = true := decide_eq_true (by omega)
  have g3 : decide ((x1.toNat : Int) < 128) = false := decide_eq_false (by omega)
  have g4 : decide ((159 : Int) < (x1.toNat : Int)) = false := decide_eq_false (by omega)
  have g2 : decide ((2 : Int) < (s.size : Int)) = false := decide_eq_false (by omega)
  go_enter Tryz.func61, Tryz.ntmps61
  go_wp2
  go_quiet (fail)
  go_wp2
  go_ret
  exact ⟨rfl, below_dr ((Below.refl _ _).alloc (Nat.le_refl _) _) _⟩

set_option maxHeartbeats 1000000 in
set_option maxRecDepth 100000 in
theorem FR_early52 (s : ByteArray) (x0 : UInt8) (w : World) (hs : s.size ≤ 1000000) (h0 : 0 < s.size) (hs0 : s[0] = x0) (hc0 : w.cell? ⟨0, x0.toNat, none⟩ = some (.int .u8 52)) (hn : 4 ≤ s.size) :
    Calls Tryz.prog 61 #[.string s] w fun e w' => e = .returned (.bool true) ∧ Below w.heap.size w w' := by
  have l0 := x0.toNat_lt
  have hz0 : (0 : Int) < (s.size : Int) := by omega
  have hz2 : (4 : Int) ≤ (s.size : Int) := by omega
  have hne : ((s.size : Int) == 0) = false := beq_eq_false_iff_ne.2 (by omega)
  go_enter Tryz.func61, Tryz.ntmps61
  go_wp2
  go_ret
  exact ⟨rfl, Below.refl _ _⟩

set_option maxHeartbeats 1000000 in
set_option maxRecDepth 100000 in
theorem FR_one52 (s : ByteArray) (x0 : UInt8) (w : World) (h0 : 0 < s.size) (hs0 : s[0] = x0) (hc0 : w.cell? ⟨0, x0.toNat, none⟩ = some (.int .u8 52)) (ha0 : w.cell? ⟨1, 6, none⟩ = some (.int .u8 144)) (ha1 : w.cell? ⟨1, 7, none⟩ = some (.int .u8 191)) (hn : s.size < 4) (h1 : s.size ≤ 1) :
    Calls Tryz.prog 61 #[.string s] w fun e w' => e = .returned (.bool false) ∧ Below w.heap.size w w' := by
  have l0 := x0.toNat_lt
  have hz0 : (0 : Int) < (s.size : Int) := by omega
  have hz1 : (s.size : Int) < 4 := by omega
  have hne : ((s.size : Int) == 0) = false := beq_eq_false_iff_ne.2 (by omega)
  have g1 : decide ((1 : Int) < (s.size : Int)) = false := decide_eq_false (by omega)
  have g2 : decide ((2 : Int) < (s.size : Int)) = false := decide_eq_false (by omega)
  go_enter Tryz.func61, Tryz.ntmps61
  go_wp2
  go_quiet (fail)
  go_wp2
  go_ret
  exact ⟨rfl, below_dr ((Below.refl _ _).alloc (Nat.le_refl _) _) _⟩

set_option maxHeartbeats 1000000 in
set_option maxRecDepth 100000 in
theorem FR_lo52 (s : ByteArray) (x0 : UInt8) (w : World) (h0 : 0 < s.size) (hs0 : s[0] = x0) (hc0 : w.cell? ⟨0, x0.toNat, none⟩ = some (.int .u8 52)) (ha0 : w.cell? ⟨1, 6, none⟩ = some (.int .u8 144)) (ha1 : w.cell? ⟨1, 7, none⟩ = some (.int .u8 191)) (hn : s.size < 4) (x1 : UInt8) (h1 : 1 < s.size) (hs1 : s[1] = x1) (hlo : x1.toNat < 144) :
    Calls Tryz.prog 61 #[.string s] w fun e w' => e = .returned (.bool true) ∧ Below w.heap.size w w' := by
  have l0 := x0.toNat_lt
  have hz0 : (0 : Int) < (s.size : Int) := by omega
  have hz1 : (s.size : Int) < 4 := by omega
  have hne : ((s.size : Int) == 0) = false := beq_eq_false_iff_ne.2 (by omega)
  have l1 := x1.toNat_lt
  have hz3 : (1 : Int) < (s.size : Int) := by omega
  have g1 : decide ((1 : Int) < (s.size : Int)) = true := decide_eq_true (by omega)
  have g3 : decide ((x1.toNat : Int) < 144) = true := decide_eq_true (by omega)
  go_enter Tryz.func61, Tryz.ntmps61
  go_wp2
  go_quiet (fail)
  go_wp2
  go_ret
  exact ⟨rfl, below_dr ((Below.refl _ _).alloc (Nat.le_refl _) _) _⟩

set_option maxHeartbeats 1000000 in
set_option maxRecDepth 100000 in
theorem FR_hi52 (s : ByteArray) (x0 : UInt8) (w : World) (h0 : 0 < s.size) (hs0 : s[0] = x0) (hc0 : w.cell? ⟨0, x0.toNat, none⟩ = some (.int .u8 52)) (ha0 : w.cell? ⟨1, 6, none⟩ = some (.int .u8 144)) (ha1 : w.cell? ⟨1, 7, none⟩ = some (.int .u8 191)) (hn : s.size < 4) (x1 : UInt8) (h1 : 1 < s.size) (hs1 : s[1] = x1) (hlo : 144 ≤ x1.toNat) (hhi : 191 < x1.toNat) :
    Calls Tryz.prog 61 #[.string s] w fun e w' => e = .returned (.bool true) ∧ Below w.heap.size w w' := by
  have l0 := x0.toNat_lt
  have hz0 : (0 : Int) < (s.size : Int) := by omega
  have hz1 : (s.size : Int) < 4 := by omega
  have hne : ((s.size : Int) == 0) = false := beq_eq_false_iff_ne.2 (by omega)
  have l1 := x1.toNat_lt
  have hz3 : (1 : Int) < (s.size : Int) := by omega
  have g1 : decide ((1 : Int) < (s.size : Int)) = true := decide_eq_true (by omega)
  have g3 : decide ((x1.toNat : Int) < 144) = false := decide_eq_false (by omega)
  have g4 : decide ((191 : Int) < (x1.toNat : Int)) = true := decide_eq_true (by omega)
  go_enter Tryz.func61, Tryz.ntmps61
  go_wp2
  go_quiet (fail)
  go_wp2
  go_ret
  exact ⟨rfl, below_dr ((Below.refl _ _).alloc (Nat.le_refl _) _) _⟩

set_option maxHeartbeats 1000000 in
set_option maxRecDepth 100000 in
theorem FR_two52 (s : ByteArray) (x0 : UInt8) (w : World) (h0 : 0 < s.size) (hs0 : s[0] = x0) (hc0 : w.cell? ⟨0, x0.toNat, none⟩ = some (.int .u8 52)) (ha0 : w.cell? ⟨1, 6, none⟩ = some (.int .u8 144)) (ha1 : w.cell? ⟨1, 7, none⟩ = some (.int .u8 191)) (hn : s.size < 4) (x1 : UInt8) (h1 : 1 < s.size) (hs1 : s[1] = x1) (hlo : 144 ≤ x1.toNat) (hhi : x1.toNat ≤ 191) (h2 : s.size ≤ 2) :
    Calls Tryz.prog 61 #[.string s] w fun e w' => e = .returned (.bool false) ∧ Below w.heap.size w w' := by
  have l0 := x0.toNat_lt
  have hz0 : (0 : Int) < (s.size : Int) := by omega
  have hz1 : (s.size : Int) < 4 := by omega
  have hne : ((s.size : Int) == 0) = false := beq_eq_false_iff_ne.2 (by omega)
  have l1 := x1.toNat_lt
  have hz3 : (1 : Int) < (s.size : Int) := by omega
  have g1 : decide ((1 : Int) < (s.size : Int)) = true := decide_eq_true (by omega)
  have g3 : decide ((x1.toNat : Int) < 144) = false := decide_eq_false (by omega)
  have g4 : decide ((191 : Int) < (x1.toNat : Int)) = false := decide_eq_false (by omega)
  have g2 : decide ((2 : Int) < (s.size : Int)) = false := decide_eq_false (by omega)
  go_enter Tryz.func61, Tryz.ntmps61
  go_wp2
  go_quiet (fail)
  go_wp2
  go_ret
  exact ⟨rfl, below_dr ((Below.refl _ _).alloc (Nat.le_refl _) _) _⟩

set_option maxHeartbeats 1000000 in
set_option maxRecDepth 100000 in
theorem FR_lo252 (s : ByteArray) (x0 : UInt8) (w : World) (h0 : 0 < s.size) (hs0 : s[0] = x0) (hc0 : w.cell? ⟨0, x0.toNat, none⟩ = some (.int .u8 52)) (ha0 : w.cell? ⟨1, 6, none⟩ = some (.int .u8 144)) (ha1 : w.cell? ⟨1, 7, none⟩ = some (.int .u8 191)) (hn : s.size < 4) (x1 : UInt8) (h1 : 1 < s.size) (hs1 : s[1] = x1) (hlo : 144 ≤ x1.toNat) (hhi : x1.toNat ≤ 191) (x2 : UInt8) (h2 : 2 < s.size) (hs2 : s[2] = x2) (h3 : x2.toNat < 128) :
    Calls Tryz.prog 61 #[.string s] w fun e w' => e = .returned (.bool true) ∧ Below w.heap.size w w' := by
  have l0 := x0.toNat_lt
  have hz0 : (0 : Int) < (s.size : Int) := by omega
  have hz1 : (s.size : Int) < 4 := by omega
  have hne : ((s.size : Int) == 0) = false := beq_eq_false_iff_ne.2 (by omega)
  have l1 := x1.toNat_lt
  have hz3 : (1 : Int) < (s.size : Int) := by omega
  have g1 : decide ((1 : Int) < (s.size : Int)) = true := decide_eq_true (by omega)
  have g3 : decide ((x1.toNat : Int) < 144) = false := decide_eq_false (by omega)
  have g4 : decide ((191 : Int) < (x1.toNat : Int)) = false := decide_eq_false (by omega)
  have l2 := x2.toNat_lt
  have hz4 : (2 : Int) < (s.size : Int) := by omega
  go_enter Tryz.func61, Tryz.ntmps61
  go_wp2
  go_quiet (fail)
  go_wp2
  go_ret
  exact ⟨rfl, below_dr ((Below.refl _ _).alloc (Nat.le_refl _) _) _⟩

set_option maxHeartbeats 1000000 in
set_option maxRecDepth 100000 in
theorem FR_hi252 (s : ByteArray) (x0 : UInt8) (w : World) (h0 : 0 < s.size) (hs0 : s[0] = x0) (hc0 : w.cell? ⟨0, x0.toNat, none⟩ = some (.int .u8 52)) (ha0 : w.cell? ⟨1, 6, none⟩ = some (.int .u8 144)) (ha1 : w.cell? ⟨1, 7, none⟩ = some (.int .u8 191)) (hn : s.size < 4) (x1 : UInt8) (h1 : 1 < s.size) (hs1 : s[1] = x1) (hlo : 144 ≤ x1.toNat) (hhi : x1.toNat ≤ 191) (x2 : UInt8) (h2 : 2 < s.size) (hs2 : s[2] = x2) (h3 : 128 ≤ x2.toNat) (h4 : 191 < x2.toNat) :
    Calls Tryz.prog 61 #[.string s] w fun e w' => e = .returned (.bool true) ∧ Below w.heap.size w w' := by
  have l0 := x0.toNat_lt
  have hz0 : (0 : Int) < (s.size : Int) := by omega
  have hz1 : (s.size : Int) < 4 := by omega
  have hne : ((s.size : Int) == 0) = false := beq_eq_false_iff_ne.2 (by omega)
  have l1 := x1.toNat_lt
  have hz3 : (1 : Int) < (s.size : Int) := by omega
  have g1 : decide ((1 : Int) < (s.size : Int)) = true := decide_eq_true (by omega)
  have g3 : decide ((x1.toNat : Int) < 144) = false := decide_eq_false (by omega)
  have g4 : decide ((191 : Int) < (x1.toNat : Int)) = false := decide_eq_false (by omega)
  have l2 := x2.toNat_lt
  have hz4 : (2 : Int) < (s.size : Int) := by omega
  go_enter Tryz.func61, Tryz.ntmps61
  go_wp2
  go_quiet (fail)
  go_wp2
  go_ret
  exact ⟨rfl, below_dr ((Below.refl _ _).alloc (Nat.le_refl _) _) _⟩

set_option maxHeartbeats 1000000 in
set_option maxRecDepth 100000 in
theorem FR_three52 (s : ByteArray) (x0 : UInt8) (w : World) (h0 : 0 < s.size) (hs0 : s[0] = x0) (hc0 : w.cell? ⟨0, x0.toNat, none⟩ = some (.int .u8 52)) (ha0 : w.cell? ⟨1, 6, none⟩ = some (.int .u8 144)) (ha1 : w.cell? ⟨1, 7, none⟩ = some (.int .u8 191)) (hn : s.size < 4) (x1 : UInt8) (h1 : 1 < s.size) (hs1 : s[1] = x1) (hlo : 144 ≤ x1.toNat) (hhi : x1.toNat ≤ 191) (x2 : UInt8) (h2 : 2 < s.size) (hs2 : s[2] = x2) (h3 : 128 ≤ x2.toNat) (h4 : x2.toNat ≤ 191) :
    Calls Tryz.prog 61 #[.string s] w fun e w' => e = .returned (.bool false) ∧ Below w.heap.size w w' := by
  have l0 := x0.toNat_lt
  have hz0 : (0 : Int) < (s.size : Int) := by omega
  have hz1 : (s.size : Int) < 4 := by omega
  have hne : ((s.size : Int) == 0) = false := beq_eq_false_iff_ne.2 (by omega)
  have l1 := x1.toNat_lt
  have hz3 : (1 : Int) < (s.size : Int) := by omega
  have g1 : decide ((1 : Int) < (s.size : Int)) = true := decide_eq_true (by omega)
  have g3 : decide ((x1.toNat : Int) < 144) = false := decide_eq_false (by omega)
  have g4 : decide ((191 : Int) < (x1.toNat : Int)) = false := decide_eq_false (by omega)
  have l2 := x2.toNat_lt
  have hz4 : (2 : Int) < (s.size : Int) := by omega
  go_enter Tryz.func61, Tryz.ntmps61
  go_wp2
  go_quiet (fail)
  go_wp2
  go_ret
  exact ⟨rfl, below_dr ((Below.refl _ _).alloc (Nat.le_refl _) _) _⟩

set_option maxHeartbeats 1000000 in
set_option maxRecDepth 100000 in
theorem FR_early4 (s : ByteArray) (x0 : UInt8) (w : World) (hs : s.size ≤ 1000000) (h0 : 0 < s.size) (hs0 : s[0] = x0) (hc0 : w.cell? ⟨0, x0.toNat, none⟩ = some (.int .u8 4)) (hn : 4 ≤ s.size) :
    Calls Tryz.prog 61 #[.string s] w fun e w' => e = .returned (.bool true) ∧ Below w.heap.size w w' := by
  have l0 := x0.toNat_lt
  have hz0 : (0 : Int) < (s.size : Int) := by omega
  have hz2 : (4 : Int) ≤ (s.size : Int) := by omega
  have hne : ((s.size : Int) == 0) = false := beq_eq_false_iff_ne.2 (by omega)
  go_enter Tryz.func61, Tryz.ntmps61
  go_wp2
  go_ret
  exact ⟨rfl, Below.refl _ _⟩

set_option maxHeartbeats 1000000 in
set_option maxRecDepth 100000 in
theorem FR_one4 (s : ByteArray) (x0 : UInt8) (w : World) (h0 : 0 < s.size) (hs0 : s[0] = x0) (hc0 : w.cell? ⟨0, x0.toNat, none⟩ = some (.int .u8 4)) (ha0 : w.cell? ⟨1, 0, none⟩ = some (.int .u8 128)) (ha1 : w.cell? ⟨1, 1, none⟩ = some (.int .u8 191)) (hn : s.size < 4) (h1 : s.size ≤ 1) :
    Calls Tryz.prog 61 #[.string s] w fun e w' => e = .returned (.bool false) ∧ Below w.heap.size w w' := by
  have l0 := x0.toNat_lt
  have hz0 : (0 : Int) < (s.size : Int) := by omega
  have hz1 : (s.size : Int) < 4 := by omega
  have hne : ((s.size : Int) == 0) = false := beq_eq_false_iff_ne.2 (by omega)
  have g1 : decide ((1 : Int) < (s.size : Int)) = false := decide_eq_false (by omega)
  have g2 : decide ((2 : Int) < (s.size : Int)) = false := decide_eq_false (by omega)
  go_enter Tryz.func61, Tryz.ntmps61
  go_wp2
  go_quiet (fail)
  go_wp2
  go_ret
  exact ⟨rfl, below_dr ((Below.refl _ _).alloc (Nat.le_refl _) _) _⟩

set_option maxHeartbeats 1000000 in
set_option maxRecDepth 100000 in
theorem FR_lo4 (s : ByteArray) (x0 : UInt8) (w : World) (h0 : 0 < s.size) (hs0 : s[0] = x0) (hc0 : w.cell? ⟨0, x0.toNat, none⟩ = some (.int .u8 4)) (ha0 : w.cell? ⟨1, 0, none⟩ = some (.int .u8 128)) (ha1 : w.cell? ⟨1, 1, none⟩ = some (.int .u8 191)) (hn : s.size < 4) (x1 : UInt8) (h1 : 1 < s.size) (hs1 : s[1] = x1) (hlo : x1.toNat < 128) :
    Calls Tryz.prog 61 #[.string s] w fun e w' => e = .returned (.bool true) ∧ Below w.heap.size w w' := by
  have l0 := x0.toNat_lt
  have hz0 : (0 : Int) < (s.size : Int) := by omega
  have hz1 : (s.size : Int) < 4 := by omega
  have hne : ((s.size : Int) == 0) = false := beq_eq_false_iff_ne.2 (by omega)
  have l1 := x1.toNat_lt
  have hz3 : (1 : Int) < (s.size : Int) := by omega
  have g1 : decide ((1 : Int) < (s.size : Int)) = true := decide_eq_true (by omega)
  have g3 : decide ((x1.toNat : Int) < 128) = true := decide_eq_true (by omega)
  go_enter Tryz.func61, Tryz.ntmps61
  go_wp2
  go_quiet (fail)
  go_wp2
  go_ret
  exact ⟨rfl, below_dr ((Below.refl _ _).alloc (Nat.le_refl _) _) _⟩

set_option maxHeartbeats 1000000 in
set_option maxRecDepth 100000 in
theorem FR_hi4 (s : ByteArray) (x0 : UInt8) (w : World) (h0 : 0 < s.size) (hs0 : s[0] = x0) (hc0 : w.cell? ⟨0, x0.toNat, none⟩ = some (.int .u8 4)) (ha0 : w.cell? ⟨1, 0, none⟩ = some (.int .u8 128)) (ha1 : w.cell? ⟨1, 1, none⟩ = some (.int .u8 191)) (hn : s.size < 4) (x1 : UInt8) (h1 : 1 < s.size) (hs1 : s[1] = x1) (hlo : 128 ≤ x1.toNat) (hhi : 191 < x1.toNat) :
    Calls Tryz.prog 61 #[.string s] w fun e w' => e = .returned (.bool true) ∧ Below w.heap.size w w' := by
  have l0 := x0.toNat_lt
  have hz0 : (0 : Int) < (s.size : Int) := by omega
  have hz1 : (s.size : Int) < 4 := by omega
  have hne : ((s.size : Int) == 0) = false := beq_eq_false_iff_ne.2 (by omega)
  have l1 := x1.toNat_lt
  have hz3 : (1 : Int) < (s.size : Int) := by omega
  have g1 : decide ((1 : Int) < (s.size : Int)) = true := decide_eq_true (by omega)
  have g3 : decide ((x1.toNat : Int) < 128) = false := decide_eq_false (by omega)
  have g4 : decide ((191 : Int) < (x1.toNat : Int)) = true := decide_eq_true (by omega)
  go_enter Tryz.func61, Tryz.ntmps61
  go_wp2
  go_quiet (fail)
  go_wp2
  go_ret
  exact ⟨rfl, below_dr ((Below.refl _ _).alloc (Nat.le_refl _) _) _⟩

set_option maxHeartbeats 1000000 in
set_option maxRecDepth 100000 in
theorem FR_two4 (s : ByteArray) (x0 : UInt8) (w : World) (h0 : 0 < s.size) (hs0 : s[0] = x0) (hc0 : w.cell? ⟨0, x0.toNat, none⟩ = some (.int .u8 4)) (ha0 : w.cell? ⟨1, 0, none⟩ = some (.int .u8 128)) (ha1 : w.cell? ⟨1, 1, none⟩ = some (.int .u8 191)) (hn : s.size < 4) (x1 : UInt8) (h1 : 1 < s.size) (hs1 : s[1] = x1) (hlo : 128 ≤ x1.toNat) (hhi : x1.toNat ≤ 191) (h2 : s.size ≤ 2) :
    Calls Tryz.prog 61 #[.string s] w fun e w' => e = .returned (.bool false) ∧ Below w.heap.size w w' := by
  have l0 := x0.toNat_lt
  have hz0 : (0 : Int) < (s.size : Int) := by omega
  have hz1 : (s.size : Int) < 4 := by omega
  have hne : ((s.size : Int) == 0) = false := beq_eq_false_iff_ne.2 (by omega)
  have l1 := x1.toNat_lt
  have hz3 : (1 : Int) < (s.size : Int) := by omega
  have g1 : decide ((1 : Int) < (s.size : Int)) = true := decide_eq_true (by omega)
  have g3 : decide ((x1.toNat : Int) < 128) = false := decide_eq_false (by omega)
  have g4 : decide ((191 : Int) < (x1.toNat : Int)) = false := decide_eq_false (by omega)
  have g2 : decide ((2 : Int) < (s.size : Int)) = false := decide_eq_false (by omega)
  go_enter Tryz.func61, Tryz.ntmps61
  go_wp2
  go_quiet (fail)
  go_wp2
  go_ret
  exact ⟨rfl, below_dr ((Below.refl _ _).alloc (Nat.le_refl _) _) _⟩

set_option maxHeartbeats 1000000 in
set_option maxRecDepth 100000 in
theorem FR_lo24 (s : ByteArray) (x0 : UInt8) (w : World) (h0 : 0 < s.size) (hs0 : s[0] = x0) (hc0 : w.cell? ⟨0, x0.toNat, none⟩ = some (.int .u8 4)) (ha0 : w.cell? ⟨1, 0, none⟩ = some (.int .u8 128)) (ha1 : w.cell? ⟨1, 1, none⟩ = some (.int .u8 191)) (hn : s.size < 4) (x1 : UInt8) (h1 : 1 < s.size) (hs1 : s[1] = x1) (hlo : 128 ≤ x1.toNat) (hhi : x1.toNat ≤ 191) (x2 : UInt8) (h2 : 2 < s.size) (hs2 : s[2] = x2) (h3 : x2.toNat < 128) :
    Calls Tryz.prog 61 #[.string s] w fun e w' => e = .returned (.bool true) ∧ Below w.heap.size w w' := by
  have l0 := x0.toNat_lt
  have hz0 : (0 : Int) < (s.size : Int) := by omega
  have hz1 : (s.size : Int) < 4 := by omega
  have hne : ((s.size : Int) == 0) = false := beq_eq_false_iff_ne.2 (by omega)
  have l1 := x1.toNat_lt
  have hz3 : (1 : Int) < (s.size : Int) := by omega
  have g1 : decide ((1 : Int) < (s.size : Int)) = true := decide_eq_true (by omega)
  have g3 : decide ((x1.toNat : Int) < 128) = false := decide_eq_false (by omega)
  have g4 : decide ((191 : Int) < (x1.toNat : Int)) = false := decide_eq_false (by omega)
  have l2 := x2.toNat_lt
  have hz4 : (2 : Int) < (s.size : Int) := by omega
  go_enter Tryz.func61, Tryz.ntmps61
  go_wp2
  go_quiet (fail)
  go_wp2
  go_ret
  exact ⟨rfl, below_dr ((Below.refl _ _).alloc (Nat.le_refl _) _) _⟩

set_option maxHeartbeats 1000000 in
set_option maxRecDepth 100000 in
theorem FR_hi24 (s : ByteArray) (x0 : UInt8) (w : World) (h0 : 0 < s.size) (hs0 : s[0] = x0) (hc0 : w.cell? ⟨0, x0.toNat, none⟩ = some (.int .u8 4)) (ha0 : w.cell? ⟨1, 0, none⟩ = some (.int .u8 128)) (ha1 : w.cell? ⟨1, 1, none⟩ = some (.int .u8 191)) (hn : s.size < 4) (x1 : UInt8) (h1 : 1 < s.size) (hs1 : s[1] = x1) (hlo : 128 ≤ x1.toNat) (hhi : x1.toNat ≤ 191) (x2 : UInt8) (h2 : 2 < s.size) (hs2 : s[2] = x2) (h3 : 128 ≤ x2.toNat) (h4 : 191 < x2.toNat) :
    Calls Tryz.prog 61 #[.string s] w fun e w' => e = .returned (.bool true) ∧ Below w.heap.size w w' := by
  have l0 := x0.toNat_lt
  have hz0 : (0 : Int) < (s.size : Int) := by omega
  have hz1 : (s.size : Int) < 4 := by omega
  have hne : ((s.size : Int) == 0) = false := beq_eq_false_iff_ne.2 (by omega)
  have l1 := x1.toNat_lt
  have hz3 : (1 : Int) < (s.size : Int) := by omega
  have g1 : decide ((1 : Int) < (s.size : Int)) = true := decide_eq_true (by omega)
  have g3 : decide ((x1.toNat : Int) < 128) = false := decide_eq_false (by omega)
  have g4 : decide ((191 : Int) < (x1.toNat : Int)) = false := decide_eq_false (by omega)
  have l2 := x2.toNat_lt
  have hz4 : (2 : Int) < (s.size : Int) := by omega
  go_enter Tryz.func61, Tryz.ntmps61
  go_wp2
  go_quiet (fail)
  go_wp2
  go_ret
  exact ⟨rfl, below_dr ((Below.refl _ _).alloc (Nat.le_refl _) _) _⟩

set_option maxHeartbeats 1000000 in
set_option maxRecDepth 100000 in
theorem FR_three4 (s : ByteArray) (x0 : UInt8) (w : World) (h0 : 0 < s.size) (hs0 : s[0] = x0) (hc0 : w.cell? ⟨0, x0.toNat, none⟩ = some (.int .u8 4)) (ha0 : w.cell? ⟨1, 0, none⟩ = some (.int .u8 128)) (ha1 : w.cell? ⟨1, 1, none⟩ = some (.int .u8 191)) (hn : s.size < 4) (x1 : UInt8) (h1 : 1 < s.size) (hs1 : s[1] = x1) (hlo : 128 ≤ x1.toNat) (hhi : x1.toNat ≤ 191) (x2 : UInt8) (h2 : 2 < s.size) (hs2 : s[2] = x2) (h3 : 128 ≤ x2.toNat) (h4 : x2.toNat ≤ 191) :
    Calls Tryz.prog 61 #[.string s] w fun e w' => e = .returned (.bool false) ∧ Below w.heap.size w w' := by
  have l0 := x0.toNat_lt
  have hz0 : (0 : Int) < (s.size : Int) := by omega
  have hz1 : (s.size : Int) < 4 := by omega
  have hne : ((s.size : Int) == 0) = false := beq_eq_false_iff_ne.2 (by omega)
  have l1 := x1.toNat_lt
  have hz3 : (1 : Int) < (s.size : Int) := by omega
  have g1 : decide ((1 : Int) < (s.size : Int)) = true := decide_eq_true (by omega)
  have g3 : decide ((x1.toNat : Int) < 128) = false := decide_eq_false (by omega)
  have g4 : decide ((191 : Int) < (x1.toNat : Int)) = false := decide_eq_false (by omega)
  have l2 := x2.toNat_lt
  have hz4 : (2 : Int) < (s.size : Int) := by omega
  go_enter Tryz.func61, Tryz.ntmps61
  go_wp2
  go_quiet (fail)
  go_wp2
  go_ret
  exact ⟨rfl, below_dr ((Below.refl _ _).alloc (Nat.le_refl _) _) _⟩

set_option maxHeartbeats 1000000 in
set_option maxRecDepth 100000 in
theorem FR_early68 (s : ByteArray) (x0 : UInt8) (w : World) (hs : s.size ≤ 1000000) (h0 : 0 < s.size) (hs0 : s[0] = x0) (hc0 : w.cell? ⟨0, x0.toNat, none⟩ = some (.int .u8 68)) (hn : 4 ≤ s.size) :
    Calls Tryz.prog 61 #[.string s] w fun e w' => e = .returned (.bool true) ∧ Below w.heap.size w w' := by
  have l0 := x0.toNat_lt
  have hz0 : (0 : Int) < (s.size : Int) := by omega
  have hz2 : (4 : Int) ≤ (s.size : Int) := by omega
  have hne : ((s.size : Int) == 0) = false := beq_eq_false_iff_ne.2 (by omega)
  go_enter Tryz.func61, Tryz.ntmps61
  go_wp2
  go_ret
  exact ⟨rfl, Below.refl _ _⟩

set_option maxHeartbeats 1000000 in
set_option maxRecDepth 100000 in
theorem FR_one68 (s : ByteArray) (x0 : UInt8) (w : World) (h0 : 0 < s.size) (hs0 : s[0] = x0) (hc0 : w.cell? ⟨0, x0.toNat, none⟩ = some (.int .u8 68)) (ha0 : w.cell? ⟨1, 8, none⟩ = some (.int .u8 128)) (ha1 : w.cell? ⟨1, 9, none⟩ = some (.int .u8 143)) (hn : s.size < 4) (h1 : s.size ≤ 1) :
    Calls Tryz.prog 61 #[.string s] w fun e w' => e = .returned (.bool false) ∧ Below w.heap.size w w' := by
  have l0 := x0.toNat_lt
  have hz0 : (0 : Int) < (s.size : Int) := by omega
  have hz1 : (s.size : Int) < 4 := by omega
  have hne : ((s.size : Int) == 0) = false := beq_eq_false_iff_ne.2 (by omega)
  have g1 : decide ((1 : Int) < (s.size : Int)) = false := decide_eq_false (by omega)
  have g2 : decide ((2 : Int) < (s.size : Int)) = false := decide_eq_false (by omega)
  go_enter Tryz.func61, Tryz.ntmps61
  go_wp2
  go_quiet (fail)
  go_wp2
  go_ret
  exact ⟨rfl, below_dr ((Below.refl _ _).alloc (Nat.le_refl _) _) _⟩

set_option maxHeartbeats 1000000 in
set_option maxRecDepth 100000 in
theorem FR_lo68 (s : ByteArray) (x0 : UInt8) (w : World) (h0 : 0 < s.size) (hs0 : s[0] = x0) (hc0 : w.cell? ⟨0, x0.toNat, none⟩ = some (.int .u8 68)) (ha0 : w.cell? ⟨1, 8, none⟩ = some (.int .u8 128)) (ha1 : w.cell? ⟨1, 9, none⟩ = some (.int .u8 143)) (hn : s.size < 4) (x1 : UInt8) (h1 : 1 < s.size) (hs1 : s[1] = x1) (hlo : x1.toNat < 128) :
    Calls Tryz.prog 61 #[.string s] w fun e w' => e = .returned (.bool true) ∧ Below w.heap.size w w' := by
  have l0 := x0.toNat_lt
  have hz0 : (0 : Int) < (s.size : Int) := by omega
  have hz1 : (s.size : Int) < 4 := by omega
  have hne : ((s.size : Int) == 0) = false := beq_eq_false_iff_ne.2 (by omega)
  have l1 := x1.toNat_lt
  have hz3 : (1 : Int) < (s.size : Int) := by omega
  have g1 : decide ((1 : Int) < (s.size : Int)) = true := decide_eq_true (by omega)
  have g3 : decide ((x1.toNat : Int) < 128) = true := decide_eq_true (by omega)
  go_enter Tryz.func61, Tryz.ntmps61
  go_wp2
  go_quiet (fail)
  go_wp2
  go_ret
  exact ⟨rfl, below_dr ((Below.refl _ _).alloc (Nat.le_refl _) _) _⟩

set_option maxHeartbeats 1000000 in
set_option maxRecDepth 100000 in
theorem FR_hi68 (s : ByteArray) (x0 : UInt8) (w : World) (h0 : 0 < s.size) (hs0 : s[0] = x0) (hc0 : w.cell? ⟨0, x0.toNat, none⟩ = some (.int .u8 68)) (ha0 : w.cell? ⟨1, 8, none⟩ = some (.int .u8 128)) (ha1 : w.cell? ⟨1, 9, none⟩ = some (.int .u8 143)) (hn : s.size < 4) (x1 : UInt8) (h1 : 1 < s.size) (hs1 : s[1] = x1) (hlo : 128 ≤ x1.toNat) (hhi : 143 < x1.toNat) :
    Calls Tryz.prog 61 #[.string s] w fun e w' => e = .returned (.bool true) ∧ Below w.heap.size w w' := by
  have l0 := x0.toNat_lt
  have hz0 : (0 : Int) < (s.size : Int) := by omega
  have hz1 : (s.size : Int) < 4 := by omega
  have hne : ((s.size : Int) == 0) = false := beq_eq_false_iff_ne.2 (by omega)
  have l1 := x1.toNat_lt
  have hz3 : (1 : Int) < (s.size : Int) := by omega
  have g1 : decide ((1 : Int) < (s.size : Int)) = true := decide_eq_true (by omega)
  have g3 : decide ((x1.toNat : Int) < 128) = false := decide_eq_false (by omega)
  have g4 : decide ((143 : Int) < (x1.toNat : Int)) = true := decide_eq_true (by omega)
  go_enter Tryz.func61, Tryz.ntmps61
  go_wp2
  go_quiet (fail)
  go_wp2
  go_ret
  exact ⟨rfl, below_dr ((Below.refl _ _).alloc (Nat.le_refl _) _) _⟩

set_option maxHeartbeats 1000000 in
set_option maxRecDepth 100000 in
theorem FR_two68 (s : ByteArray) (x0 : UInt8) (w : World) (h0 : 0 < s.size) (hs0 : s[0] = x0) (hc0 : w.cell? ⟨0, x0.toNat, none⟩ = some (.int .u8 68)) (ha0 : w.cell? ⟨1, 8, none⟩ = some (.int .u8 128)) (ha1 : w.cell? ⟨1, 9, none⟩ = some (.int .u8 143)) (hn : s.size < 4) (x1 : UInt8) (h1 : 1 < s.size) (hs1 : s[1] = x1) (hlo : 128 ≤ x1.toNat) (hhi : x1.toNat ≤ 143) (h2 : s.size ≤ 2) :
    Calls Tryz.prog 61 #[.string s] w fun e w' => e = .returned (.bool false) ∧ Below w.heap.size w w' := by
  have l0 := x0.toNat_lt
  have hz0 : (0 : Int) < (s.size : Int) := by omega
  have hz1 : (s.size : Int) < 4 := by omega
  have hne : ((s.size : Int) == 0) = false := beq_eq_false_iff_ne.2 (by omega)
  have l1 := x1.toNat_lt
  have hz3 : (1 : Int) < (s.size : Int) := by omega
  have g1 : decide ((1 : Int) < (s.size : Int)) = true := decide_eq_true (by omega)
  have g3 : decide ((x1.toNat : Int) < 128) = false := decide_eq_false (by omega)
  have g4 : decide ((143 : Int) < (x1.toNat : Int)) = false := decide_eq_false (by omega)
  have g2 : decide ((2 : Int) < (s.size : Int)) = false := decide_eq_false (by omega)
  go_enter Tryz.func61, Tryz.ntmps61
  go_wp2
  go_quiet (fail)
  go_wp2
  go_ret
  exact ⟨rfl, below_dr ((Below.refl _ _).alloc (Nat.le_refl _) _) _⟩

set_option maxHeartbeats 1000000 in
set_option maxRecDepth 100000 in
theorem FR_lo268 (s : ByteArray) (x0 : UInt8) (w : World) (h0 : 0 < s.size) (hs0 : s[0] = x0) (hc0 : w.cell? ⟨0, x0.toNat, none⟩ = some (.int .u8 68)) (ha0 : w.cell? ⟨1, 8, none⟩ = some (.int .u8 128)) (ha1 : w.cell? ⟨1, 9, none⟩ = some (.int .u8 143)) (hn : s.size < 4) (x1 : UInt8) (h1 : 1 < s.size) (hs1 : s[1] = x1) (hlo : 128 ≤ x1.toNat) (hhi : x1.toNat ≤ 143) (x2 : UInt8) (h2 : 2 < s.size) (hs2 : s[2] = x2) (h3 : x2.toNat < 128) :
    Calls Tryz.prog 61 #[.string s] w fun e w' => e = .returned (.bool true) ∧ Below w.heap.size w w' := by
  have l0 := x0.toNat_lt
  have hz0 : (0 : Int) < (s.size : Int) := by omega
  have hz1 : (s.size : Int) < 4 := by omega
  have hne : ((s.size : Int) == 0) = false := beq_eq_false_iff_ne.2 (by omega)
  have l1 := x1.toNat_lt
  have hz3 : (1 : Int) < (s.size : Int) := by omega
  have g1 : decide ((1 : Int) < (s.size : Int)) = true := decide_eq_true (by omega)
  have g3 : decide ((x1.toNat : Int) < 128) = false := decide_eq_false (by omega)
  have g4 : decide ((143 : Int) < (x1.toNat : Int)) = false := decide_eq_false (by omega)
  have l2 := x2.toNat_lt
  have hz4 : (2 : Int) < (s.size : Int) := by omega
  go_enter Tryz.func61, Tryz.ntmps61
  go_wp2
  go_quiet (fail)
  go_wp2
  go_ret
  exact ⟨rfl, below_dr ((Below.refl _ _).alloc (Nat.le_refl _) _) _⟩

set_option maxHeartbeats 1000000 in
set_option maxRecDepth 100000 in
theorem FR_hi268 (s : ByteArray) (x0 : UInt8) (w : World) (h0 : 0 < s.size) (hs0 : s[0] = x0) (hc0 : w.cell? ⟨0, x0.toNat, none⟩ = some (.int .u8 68)) (ha0 : w.cell? ⟨1, 8, none⟩ = some (.int .u8 128)) (ha1 : w.cell? ⟨1, 9, none⟩ = some (.int .u8 143)) (hn : s.size < 4) (x1 : UInt8) (h1 : 1 < s.size) (hs1 : s[1] = x1) (hlo : 128 ≤ x1.toNat) (hhi : x1.toNat ≤ 143) (x2 : UInt8) (h2 : 2 < s.size) (hs2 : s[2] = x2) (h3 : 128 ≤ x2.toNat) (h4 : 191 < x2.toNat) :
    Calls Tryz.prog 61 #[.string s] w fun e w' => e = .returned (.bool true) ∧ Below w.heap.size w w' := by
  have l0 := x0.toNat_lt
  have hz0 : (0 : Int) < (s.size : Int) := by omega
  have hz1 : (s.size : Int) < 4 := by omega
  have hne : ((s.size : Int) == 0) = false := beq_eq_false_iff_ne.2 (by omega)
  have l1 := x1.toNat_lt
  have hz3 : (1 : Int) < (s.size : Int) := by omega
  have g1 : decide ((1 : Int) < (s.size : Int)) = true := decide_eq_true (by omega)
  have g3 : decide ((x1.toNat : Int) < 128) = false := decide_eq_false (by omega)
  have g4 : decide ((143 : Int) < (x1.toNat : Int)) = false := decide_eq_false (by omega)
  have l2 := x2.toNat_lt
  have hz4 : (2 : Int) < (s.size : Int) := by omega
  go_enter Tryz.func61, Tryz.ntmps61
  go_wp2
  go_quiet (fail)
  go_wp2
  go_ret
  exact ⟨rfl, below_dr ((Below.refl _ _).alloc (Nat.le_refl _) _) _⟩

set_option maxHeartbeats 1000000 in
set_option maxRecDepth 100000 in
theorem FR_three68 (s : ByteArray) (x0 : UInt8) (w : World) (h0 : 0 < s.size) (hs0 : s[0] = x0) (hc0 : w.cell? ⟨0, x0.toNat, none⟩ = some (.int .u8 68)) (ha0 : w.cell? ⟨1, 8, none⟩ = some (.int .u8 128)) (ha1 : w.cell? ⟨1, 9, none⟩ = some (.int .u8 143)) (hn : s.size < 4) (x1 : UInt8) (h1 : 1 < s.size) (hs1 : s[1] = x1) (hlo : 128 ≤ x1.toNat) (hhi : x1.toNat ≤ 143) (x2 : UInt8) (h2 : 2 < s.size) (hs2 : s[2] = x2) (h3 : 128 ≤ x2.toNat) (h4 : x2.toNat ≤ 191) :
    Calls Tryz.prog 61 #[.string s] w fun e w' => e = .returned (.bool false) ∧ Below w.heap.size w w' := by
  have l0 := x0.toNat_lt
  have hz0 : (0 : Int) < (s.size : Int) := by omega
  have hz1 : (s.size : Int) < 4 := by omega
  have hne : ((s.size : Int) == 0) = false := beq_eq_false_iff_ne.2 (by omega)
  have l1 := x1.toNat_lt
  have hz3 : (1 : Int) < (s.size : Int) := by omega
  have g1 : decide ((1 : Int) < (s.size : Int)) = true := decide_eq_true (by omega)
  have g3 : decide ((x1.toNat : Int) < 128) = false := decide_eq_false (by omega)
  have g4 : decide ((143 : Int) < (x1.toNat : Int)) = false := decide_eq_false (by omega)
  have l2 := x2.toNat_lt
  have hz4 : (2 : Int) < (s.size : Int) := by omega
  go_enter Tryz.func61, Tryz.ntmps61
  go_wp2
  go_quiet (fail)
  go_wp2
  go_ret
  exact ⟨rfl, below_dr ((Below.refl _ _).alloc (Nat.le_refl _) _) _⟩

theorem get0 (s : ByteArray) (i : Nat) (h : i < s.size) : s[i] = s.data.toList.getD i 0 := by
  rw [← U.get_eq]; exact (Utf8W.get!_of_lt s i h).symm

theorem FullRune (s : ByteArray) (w : World) (hs : s.size ≤ 1000000) (hT : Tabs w) :
    Calls Tryz.prog 61 #[.string s] w fun e w' => e = .returned (.bool (U.full s.data.toList)) ∧ Below w.heap.size w w' := by
  unfold U.full
  rw [U.list_size]
  by_cases h0 : s.size = 0
  · have hv : U.fullN s.size (s.data.toList.getD 0 0).toNat (s.data.toList.getD 1 0).toNat (s.data.toList.getD 2 0).toNat = false := by unfold U.fullN; rw [if_pos h0]
    rw [hv]
    have hz : ((s.size : Int) == 0) = true := beq_iff_eq.2 (by omega)
    go_enter Tryz.func61, Tryz.ntmps61
    go_wp2
    go_ret
    exact ⟨rfl, Below.refl _ _⟩
  · have hp : 0 < s.size := by omega
    obtain ⟨x0, hx0⟩ : ∃ x, s.data.toList.getD 0 0 = x := ⟨_, rfl⟩
    obtain ⟨x1, hx1⟩ : ∃ x, s.data.toList.getD 1 0 = x := ⟨_, rfl⟩
    obtain ⟨x2, hx2⟩ : ∃ x, s.data.toList.getD 2 0 = x := ⟨_, rfl⟩
    have hs0 : s[0] = x0 := by rw [get0 s 0 hp, hx0]
    have hs1 : (h : 1 < s.size) → s[1] = x1 := fun h => by rw [get0 s 1 h, hx1]
    have hs2 : (h : 2 < s.size) → s[2] = x2 := fun h => by rw [get0 s 2 h, hx2]
    rw [hx0, hx1, hx2]
    have hc0 := hT.1.1 x0.toNat x0.toNat_lt
    rcases Lib.firstT_cases x0.toNat with hX | hX | hX | hX | hX | hX | hX | hX | hX
    · rw [hX] at hc0
      have e8 : Lib.firstT x0.toNat % 8 = 0 := by rw [hX]
      by_cases hn : 0 ≤ s.size
      · have hv : U.fullN s.size x0.toNat x1.toNat x2.toNat = true := by unfold U.fullN; rw [if_neg h0, if_pos (by omega)]
        rw [hv]; exact FR_early240 s x0 w hs hp hs0 hc0 hn
      · omega
    · rw [hX] at hc0
      have e8 : Lib.firstT x0.toNat % 8 = 1 := by rw [hX]
      by_cases hn : 1 ≤ s.size
      · have hv : U.fullN s.size x0.toNat x1.toNat x2.toNat = true := by unfold U.fullN; rw [if_neg h0, if_pos (by omega)]
        rw [hv]; exact FR_early241 s x0 w hs hp hs0 hc0 hn
      · omega
    · rw [hX] at hc0
      have e8 : Lib.firstT x0.toNat % 8 = 2 := by rw [hX]
      by_cases hn : 2 ≤ s.size
      · have hv : U.fullN s.size x0.toNat x1.toNat x2.toNat = true := by unfold U.fullN; rw [if_neg h0, if_pos (by omega)]
        rw [hv]; exact FR_early2 s x0 w hs hp hs0 hc0 hn
      · have ha0 := (hT.1.2 0 (by omega)).1
        have ha1 := (hT.1.2 0 (by omega)).2
        have el : Lib.accLo (Lib.firstT x0.toNat / 16) = 128 := by rw [hX]; rfl
        have eh : Lib.accHi (Lib.firstT x0.toNat / 16) = 191 := by rw [hX]; rfl
        by_cases h1 : 1 < s.size
        · omega
        · have hv : U.fullN s.size x0.toNat x1.toNat x2.toNat = false := by unfold U.fullN; rw [if_neg h0, if_neg (by omega), if_neg (by omega), if_neg (by omega)]
          rw [hv]; exact FR_one2 s x0 w hp hs0 hc0 ha0 ha1 (by omega) (by omega)
    · rw [hX] at hc0
      have e8 : Lib.firstT x0.toNat % 8 = 3 := by rw [hX]
      by_cases hn : 3 ≤ s.size
      · have hv : U.fullN s.size x0.toNat x1.toNat x2.toNat = true := by unfold U.fullN; rw [if_neg h0, if_pos (by omega)]
        rw [hv]; exact FR_early19 s x0 w hs hp hs0 hc0 hn
      · have ha0 := (hT.1.2 1 (by omega)).1
        have ha1 := (hT.1.2 1 (by omega)).2
        have el : Lib.accLo (Lib.firstT x0.toNat / 16) = 160 := by rw [hX]; rfl
        have eh : Lib.accHi (Lib.firstT x0.toNat / 16) = 191 := by rw [hX]; rfl
        by_cases h1 : 1 < s.size
        · by_cases hlo : x1.toNat < 160
          · have hv : U.fullN s.size x0.toNat x1.toNat x2.toNat = true := by unfold U.fullN; rw [if_neg h0, if_neg (by omega), if_pos (by omega)]
            rw [hv]; exact FR_lo19 s x0 w hp hs0 hc0 ha0 ha1 (by omega) x1 h1 (hs1 h1) hlo
          · by_cases hhi : 191 < x1.toNat
            · have hv : U.fullN s.size x0.toNat x1.toNat x2.toNat = true := by unfold U.fullN; rw [if_neg h0, if_neg (by omega), if_pos (by omega)]
              rw [hv]; exact FR_hi19 s x0 w hp hs0 hc0 ha0 ha1 (by omega) x1 h1 (hs1 h1) (by omega) hhi
            · by_cases h2 : 2 < s.size
              · omega
              · have hv : U.fullN s.size x0.toNat x1.toNat x2.toNat = false := by unfold U.fullN; rw [if_neg h0, if_neg (by omega), if_neg (by omega), if_neg (by omega)]
                rw [hv]; exact FR_two19 s x0 w hp hs0 hc0 ha0 ha1 (by omega) x1 h1 (hs1 h1) (by omega) (by omega) (by omega)
        · have hv : U.fullN s.size x0.toNat x1.toNat x2.toNat = false := by unfold U.fullN; rw [if_neg h0, if_neg (by omega), if_neg (by omega), if_neg (by omega)]
          rw [hv]; exact FR_one19 s x0 w hp hs0 hc0 ha0 ha1 (by omega) (by omega)
    · rw [hX] at hc0
      have e8 : Lib.firstT x0.toNat % 8 = 3 := by rw [hX]
      by_cases hn : 3 ≤ s.size
      · have hv : U.fullN s.size x0.toNat x1.toNat x2.toNat = true := by unfold U.fullN; rw [if_neg h0, if_pos (by omega)]
        rw [hv]; exact FR_early3 s x0 w hs hp hs0 hc0 hn
      · have ha0 := (hT.1.2 0 (by omega)).1
        have ha1 := (hT.1.2 0 (by omega)).2
        have el : Lib.accLo (Lib.firstT x0.toNat / 16) = 128 := by rw [hX]; rfl
        have eh : Lib.accHi (Lib.firstT x0.toNat / 16) = 191 := by rw [hX]; rfl
        by_cases h1 : 1 < s.size
        · by_cases hlo : x1.toNat < 128
          · have hv : U.fullN s.size x0.toNat x1.toNat x2.toNat = true := by unfold U.fullN; rw [if_neg h0, if_neg (by omega), if_pos (by omega)]
            rw [hv]; exact FR_lo3 s x0 w hp hs0 hc0 ha0 ha1 (by omega) x1 h1 (hs1 h1) hlo
          · by_cases hhi : 191 < x1.toNat
            · have hv : U.fullN s.size x0.toNat x1.toNat x2.toNat = true := by unfold U.fullN; rw [if_neg h0, if_neg (by omega), if_pos (by omega)]
              rw [hv]; exact FR_hi3 s x0 w hp hs0 hc0 ha0 ha1 (by omega) x1 h1 (hs1 h1) (by omega) hhi
            · by_cases h2 : 2 < s.size
              · omega
              · have hv : U.fullN s.size x0.toNat x1.toNat x2.toNat = false := by unfold U.fullN; rw [if_neg h0, if_neg (by omega), if_neg (by omega), if_neg (by omega)]
                rw [hv]; exact FR_two3 s x0 w hp hs0 hc0 ha0 ha1 (by omega) x1 h1 (hs1 h1) (by omega) (by omega) (by omega)
        · have hv : U.fullN s.size x0.toNat x1.toNat x2.toNat = false := by unfold U.fullN; rw [if_neg h0, if_neg (by omega), if_neg (by omega), if_neg (by omega)]
          rw [hv]; exact FR_one3 s x0 w hp hs0 hc0 ha0 ha1 (by omega) (by omega)
    · rw [hX] at hc0
      have e8 : Lib.firstT x0.toNat % 8 = 3 := by rw [hX]
      by_cases hn : 3 ≤ s.size
      · have hv : U.fullN s.size x0.toNat x1.toNat x2.toNat = true := by unfold U.fullN; rw [if_neg h0, if_pos (by omega)]
        rw [hv]; exact FR_early35 s x0 w hs hp hs0 hc0 hn
      · have ha0 := (hT.1.2 2 (by omega)).1
        have ha1 := (hT.1.2 2 (by omega)).2
        have el : Lib.accLo (Lib.firstT x0.toNat / 16) = 128 := by rw [hX]; rfl
        have eh : Lib.accHi (Lib.firstT x0.toNat / 16) = 159 := by rw [hX]; rfl
        by_cases h1 : 1 < s.size
        · by_cases hlo : x1.toNat < 128
          · have hv : U.fullN s.size x0.toNat x1.toNat x2.toNat = true := by unfold U.fullN; rw [if_neg h0, if_neg (by omega), if_pos (by omega)]
            rw [hv]; exact FR_lo35 s x0 w hp hs0 hc0 ha0 ha1 (by omega) x1 h1 (hs1 h1) hlo
          · by_cases hhi : 159 < x1.toNat
            · have hv : U.fullN s.size x0.toNat x1.toNat x2.toNat = true := by unfold U.fullN; rw [if_neg h0, if_neg (by omega), if_pos (by omega)]
              rw [hv]; exact FR_hi35 s x0 w hp hs0 hc0 ha0 ha1 (by omega) x1 h1 (hs1 h1) (by omega) hhi
            · by_cases h2 : 2 < s.size
              · omega
              · have hv : U.fullN s.size x0.toNat x1.toNat x2.toNat = false := by unfold U.fullN; rw [if_neg h0, if_neg (by omega), if_neg (by omega), if_neg (by omega)]
                rw [hv]; exact FR_two35 s x0 w hp hs0 hc0 ha0 ha1 (by omega) x1 h1 (hs1 h1) (by omega) (by omega) (by omega)
        · have hv : U.fullN s.size x0.toNat x1.toNat x2.toNat = false := by unfold U.fullN; rw [if_neg h0, if_neg (by omega), if_neg (by omega), if_neg (by omega)]
          rw [hv]; exact FR_one35 s x0 w hp hs0 hc0 ha0 ha1 (by omega) (by omega)
    · rw [hX] at hc0
      have e8 : Lib.firstT x0.toNat % 8 = 4 := by rw [hX]
      by_cases hn : 4 ≤ s.size
      · have hv : U.fullN s.size x0.toNat x1.toNat x2.toNat = true := by unfold U.fullN; rw [if_neg h0, if_pos (by omega)]
        rw [hv]; exact FR_early52 s x0 w hs hp hs0 hc0 hn
      · have ha0 := (hT.1.2 3 (by omega)).1
        have ha1 := (hT.1.2 3 (by omega)).2
        have el : Lib.accLo (Lib.firstT x0.toNat / 16) = 144 := by rw [hX]; rfl
        have eh : Lib.accHi (Lib.firstT x0.toNat / 16) = 191 := by rw [hX]; rfl
        by_cases h1 : 1 < s.size
        · by_cases hlo : x1.toNat < 144
          · have hv : U.fullN s.size x0.toNat x1.toNat x2.toNat = true := by unfold U.fullN; rw [if_neg h0, if_neg (by omega), if_pos (by omega)]
            rw [hv]; exact FR_lo52 s x0 w hp hs0 hc0 ha0 ha1 (by omega) x1 h1 (hs1 h1) hlo
          · by_cases hhi : 191 < x1.toNat
            · have hv : U.fullN s.size x0.toNat x1.toNat x2.toNat = true := by unfold U.fullN; rw [if_neg h0, if_neg (by omega), if_pos (by omega)]
              rw [hv]; exact FR_hi52 s x0 w hp hs0 hc0 ha0 ha1 (by omega) x1 h1 (hs1 h1) (by omega) hhi
            · by_cases h2 : 2 < s.size
              · by_cases h3 : x2.toNat < 128
                · have hv : U.fullN s.size x0.toNat x1.toNat x2.toNat = true := by unfold U.fullN; rw [if_neg h0, if_neg (by omega), if_neg (by omega), if_pos (by omega)]
                  rw [hv]; exact FR_lo252 s x0 w hp hs0 hc0 ha0 ha1 (by omega) x1 h1 (hs1 h1) (by omega) (by omega) x2 h2 (hs2 h2) h3
                · by_cases h4 : 191 < x2.toNat
                  · have hv : U.fullN s.size x0.toNat x1.toNat x2.toNat = true := by unfold U.fullN; rw [if_neg h0, if_neg (by omega), if_neg (by omega), if_pos (by omega)]
                    rw [hv]; exact FR_hi252 s x0 w hp hs0 hc0 ha0 ha1 (by omega) x1 h1 (hs1 h1) (by omega) (by omega) x2 h2 (hs2 h2) (by omega) h4
                  · have hv : U.fullN s.size x0.toNat x1.toNat x2.toNat = false := by unfold U.fullN; rw [if_neg h0, if_neg (by omega), if_neg (by omega), if_neg (by omega)]
                    rw [hv]; exact FR_three52 s x0 w hp hs0 hc0 ha0 ha1 (by omega) x1 h1 (hs1 h1) (by omega) (by omega) x2 h2 (hs2 h2) (by omega) (by omega)
              · have hv : U.fullN s.size x0.toNat x1.toNat x2.toNat = false := by unfold U.fullN; rw [if_neg h0, if_neg (by omega), if_neg (by omega), if_neg (by omega)]
                rw [hv]; exact FR_two52 s x0 w hp hs0 hc0 ha0 ha1 (by omega) x1 h1 (hs1 h1) (by omega) (by omega) (by omega)
        · have hv : U.fullN s.size x0.toNat x1.toNat x2.toNat = false := by unfold U.fullN; rw [if_neg h0, if_neg (by omega), if_neg (by omega), if_neg (by omega)]
          rw [hv]; exact FR_one52 s x0 w hp hs0 hc0 ha0 ha1 (by omega) (by omega)
    · rw [hX] at hc0
      have e8 : Lib.firstT x0.toNat % 8 = 4 := by rw [hX]
      by_cases hn : 4 ≤ s.size
      · have hv : U.fullN s.size x0.toNat x1.toNat x2.toNat = true := by unfold U.fullN; rw [if_neg h0, if_pos (by omega)]
        rw [hv]; exact FR_early4 s x0 w hs hp hs0 hc0 hn
      · have ha0 := (hT.1.2 0 (by omega)).1
        have ha1 := (hT.1.2 0 (by omega)).2
        have el : Lib.accLo (Lib.firstT x0.toNat / 16) = 128 := by rw [hX]; rfl
        have eh : Lib.accHi (Lib.firstT x0.toNat / 16) = 191 := by rw [hX]; rfl
        by_cases h1 : 1 < s.size
        · by_cases hlo : x1.toNat < 128
          · have hv : U.fullN s.size x0.toNat x1.toNat x2.toNat = true := by unfold U.fullN; rw [if_neg h0, if_neg (by omega), if_pos (by omega)]
            rw [hv]; exact FR_lo4 s x0 w hp hs0 hc0 ha0 ha1 (by omega) x1 h1 (hs1 h1) hlo
          · by_cases hhi : 191 < x1.toNat
            · have hv : U.fullN s.size x0.toNat x1.toNat x2.toNat = true := by unfold U.fullN; rw [if_neg h0, if_neg (by omega), if_pos (by omega)]
              rw [hv]; exact FR_hi4 s x0 w hp hs0 hc0 ha0 ha1 (by omega) x1 h1 (hs1 h1) (by omega) hhi
            · by_cases h2 : 2 < s.size
              · by_cases h3 : x2.toNat < 128
                · have hv : U.fullN s.size x0.toNat x1.toNat x2.toNat = true := by unfold U.fullN; rw [if_neg h0, if_neg (by omega), if_neg (by omega), if_pos (by omega)]
                  rw [hv]; exact FR_lo24 s x0 w hp hs0 hc0 ha0 ha1 (by omega) x1 h1 (hs1 h1) (by omega) (by omega) x2 h2 (hs2 h2) h3
                · by_cases h4 : 191 < x2.toNat
                  · have hv : U.fullN s.size x0.toNat x1.toNat x2.toNat = true := by unfold U.fullN; rw [if_neg h0, if_neg (by omega), if_neg (by omega), if_pos (by omega)]
                    rw [hv]; exact FR_hi24 s x0 w hp hs0 hc0 ha0 ha1 (by omega) x1 h1 (hs1 h1) (by omega) (by omega) x2 h2 (hs2 h2) (by omega) h4
                  · have hv : U.fullN s.size x0.toNat x1.toNat x2.toNat = false := by unfold U.fullN; rw [if_neg h0, if_neg (by omega), if_neg (by omega), if_neg (by omega)]
                    rw [hv]; exact FR_three4 s x0 w hp hs0 hc0 ha0 ha1 (by omega) x1 h1 (hs1 h1) (by omega) (by omega) x2 h2 (hs2 h2) (by omega) (by omega)
              · have hv : U.fullN s.size x0.toNat x1.toNat x2.toNat = false := by unfold U.fullN; rw [if_neg h0, if_neg (by omega), if_neg (by omega), if_neg (by omega)]
                rw [hv]; exact FR_two4 s x0 w hp hs0 hc0 ha0 ha1 (by omega) x1 h1 (hs1 h1) (by omega) (by omega) (by omega)
        · have hv : U.fullN s.size x0.toNat x1.toNat x2.toNat = false := by unfold U.fullN; rw [if_neg h0, if_neg (by omega), if_neg (by omega), if_neg (by omega)]
          rw [hv]; exact FR_one4 s x0 w hp hs0 hc0 ha0 ha1 (by omega) (by omega)
    · rw [hX] at hc0
      have e8 : Lib.firstT x0.toNat % 8 = 4 := by rw [hX]
      by_cases hn : 4 ≤ s.size
      · have hv : U.fullN s.size x0.toNat x1.toNat x2.toNat = true := by unfold U.fullN; rw [if_neg h0, if_pos (by omega)]
        rw [hv]; exact FR_early68 s x0 w hs hp hs0 hc0 hn
      · have ha0 := (hT.1.2 4 (by omega)).1
        have ha1 := (hT.1.2 4 (by omega)).2
        have el : Lib.accLo (Lib.firstT x0.toNat / 16) = 128 := by rw [hX]; rfl
        have eh : Lib.accHi (Lib.firstT x0.toNat / 16) = 143 := by rw [hX]; rfl
        by_cases h1 : 1 < s.size
        · by_cases hlo : x1.toNat < 128
          · have hv : U.fullN s.size x0.toNat x1.toNat x2.toNat = true := by unfold U.fullN; rw [if_neg h0, if_neg (by omega), if_pos (by omega)]
            rw [hv]; exact FR_lo68 s x0 w hp hs0 hc0 ha0 ha1 (by omega) x1 h1 (hs1 h1) hlo
          · by_cases hhi : 143 < x1.toNat
            · have hv : U.fullN s.size x0.toNat x1.toNat x2.toNat = true := by unfold U.fullN; rw [if_neg h0, if_neg (by omega), if_pos (by omega)]
              rw [hv]; exact FR_hi68 s x0 w hp hs0 hc0 ha0 ha1 (by omega) x1 h1 (hs1 h1) (by omega) hhi
            · by_cases h2 : 2 < s.size
              · by_cases h3 : x2.toNat < 128
                · have hv : U.fullN s.size x0.toNat x1.toNat x2.toNat = true := by unfold U.fullN; rw [if_neg h0, if_neg (by omega), if_neg (by omega), if_pos (by omega)]
                  rw [hv]; exact FR_lo268 s x0 w hp hs0 hc0 ha0 ha1 (by omega) x1 h1 (hs1 h1) (by omega) (by omega) x2 h2 (hs2 h2) h3
                · by_cases h4 : 191 < x2.toNat
                  · have hv : U.fullN s.size x0.toNat x1.toNat x2.toNat = true := by unfold U.fullN; rw [if_neg h0, if_neg (by omega), if_neg (by omega), if_pos (by omega)]
                    rw [hv]; exact FR_hi268 s x0 w hp hs0 hc0 ha0 ha1 (by omega) x1 h1 (hs1 h1) (by omega) (by omega) x2 h2 (hs2 h2) (by omega) h4
                  · have hv : U.fullN s.size x0.toNat x1.toNat x2.toNat = false := by unfold U.fullN; rw [if_neg h0, if_neg (by omega), if_neg (by omega), if_neg (by omega)]
                    rw [hv]; exact FR_three68 s x0 w hp hs0 hc0 ha0 ha1 (by omega) x1 h1 (hs1 h1) (by omega) (by omega) x2 h2 (hs2 h2) (by omega) (by omega)
              · have hv : U.fullN s.size x0.toNat x1.toNat x2.toNat = false := by unfold U.fullN; rw [if_neg h0, if_neg (by omega), if_neg (by omega), if_neg (by omega)]
                rw [hv]; exact FR_two68 s x0 w hp hs0 hc0 ha0 ha1 (by omega) x1 h1 (hs1 h1) (by omega) (by omega) (by omega)
        · have hv : U.fullN s.size x0.toNat x1.toNat x2.toNat = false := by unfold U.fullN; rw [if_neg h0, if_neg (by omega), if_neg (by omega), if_neg (by omega)]
          rw [hv]; exact FR_one68 s x0 w hp hs0 hc0 ha0 ha1 (by omega) (by omega)

end T
end Go.Proofs.YtlnginciehjlnaaGreatDoor
