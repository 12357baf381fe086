/- What the reference's Code comes to: the number of a code point that is given as its bytes. -/
import Derived.Test.YtlklkbhopdneaaaPts
import Derived.BigQuiet
import Derived.Deep.QuietTactic
import Derived.Laws.BitsLemmas
import Derived.WalkSmall
set_option linter.unusedVariables false
set_option linter.unusedSimpArgs false
namespace Go.Proofs.Ytlklkbhopdneaaa
open Go.RowKit
namespace T

theorem and31 (a : UInt8) : bits .and .u8 (a.toNat : Int) 31 = (a.toNat : Int) % 32 := u8_and31 _ (by omega) (by have := a.toNat_lt; omega)
theorem and63 (a : UInt8) : bits .and .u8 (a.toNat : Int) 63 = (a.toNat : Int) % 64 := u8_and63 _ (by omega) (by have := a.toNat_lt; omega)
theorem and15 (a : UInt8) : bits .and .u8 (a.toNat : Int) 15 = (a.toNat : Int) % 16 := u8_and15 _ (by omega) (by have := a.toNat_lt; omega)
theorem and7 (a : UInt8) : bits .and .u8 (a.toNat : Int) 7 = (a.toNat : Int) % 8 := u8_and7 _ (by omega) (by have := a.toNat_lt; omega)
theorem w64 (n : Int) (h0 : 0 ≤ n) (h1 : n ≤ 1000000000) : wrap64 n = n := by
  unfold wrap64
  omega

theorem code1_eq (a : UInt8) : wrap64 (a.toNat : Int) = (U.code [a] : Nat) := by
  have := a.toNat_lt
  simp only [U.code]
  exact w64 _ (by omega) (by omega)

theorem code2_eq (a b : UInt8) : wrap64 (wrap64 (wrap64 (bits .and .u8 (a.toNat : Int) 31) * 64) + wrap64 (bits .and .u8 (b.toNat : Int) 63)) = (U.code [a, b] : Nat) := by
  rw [and31, and63]
  simp only [U.code]
  rw [w64 ((a.toNat : Int) % 32) (by omega) (by omega), w64 ((b.toNat : Int) % 64) (by omega) (by omega), w64 ((a.toNat : Int) % 32 * 64) (by omega) (by omega), w64 _ (by omega) (by omega)]
  omega

theorem code3_eq (a b c : UInt8) : wrap64 (wrap64 (wrap64 (wrap64 (bits .and .u8 (a.toNat : Int) 15) * 4096) + wrap64 (wrap64 (bits .and .u8 (b.toNat : Int) 63) * 64)) + wrap64 (bits .and .u8 (c.toNat : Int) 63)) = (U.code [a, b, c] : Nat) := by
  rw [and15, and63, and63]
  simp only [U.code]
  rw [w64 ((a.toNat : Int) % 16) (by omega) (by omega), w64 ((b.toNat : Int) % 64) (by omega) (by omega), w64 ((c.toNat : Int) % 64) (by omega) (by omega), w64 ((a.toNat : Int) % 16 * 4096) (by omega) (by omega), w64 ((b.toNat : Int) % 64 * 64) (by omega) (by omega), w64 ((a.toNat : Int) % 16 * 4096 + (b.toNat : Int) % 64 * 64) (by omega) (by omega), w64 _ (by omega) (by omega)]
  omega

theorem code4_eq (a b c d : UInt8) : wrap64 (wrap64 (wrap64 (wrap64 (wrap64 (bits .and .u8 (a.toNat : Int) 7) * 262144) + wrap64 (wrap64 (bits .and .u8 (b.toNat : Int) 63) * 4096)) + wrap64 (wrap64 (bits .and .u8 (c.toNat : Int) 63) * 64)) + wrap64 (bits .and .u8 (d.toNat : Int) 63)) = (U.code [a, b, c, d] : Nat) := by
  rw [and7, and63, and63, and63]
  simp only [U.code]
  rw [w64 ((a.toNat : Int) % 8) (by omega) (by omega), w64 ((b.toNat : Int) % 64) (by omega) (by omega), w64 ((c.toNat : Int) % 64) (by omega) (by omega), w64 ((d.toNat : Int) % 64) (by omega) (by omega), w64 ((a.toNat : Int) % 8 * 262144) (by omega) (by omega), w64 ((b.toNat : Int) % 64 * 4096) (by omega) (by omega), w64 ((c.toNat : Int) % 64 * 64) (by omega) (by omega), w64 ((a.toNat : Int) % 8 * 262144 + (b.toNat : Int) % 64 * 4096) (by omega) (by omega), w64 ((a.toNat : Int) % 8 * 262144 + (b.toNat : Int) % 64 * 4096 + (c.toNat : Int) % 64 * 64) (by omega) (by omega), w64 _ (by omega) (by omega)]
  omega

set_option maxHeartbeats 1000000 in
set_option maxRecDepth 100000 in
theorem code1 (a : UInt8) (w : World) :
    Calls Try.prog 9 #[.string ⟨#[a]⟩] w fun e w' => e = .returned (.int .i64 (U.code [a] : Nat)) ∧ Below w.heap.size w w' := by
  rw [← code1_eq]
  go_enter Try.func9, Try.ntmps9
  go_wp2_with fail
  go_ret
  exact ⟨rfl, Below.refl _ _⟩

set_option maxHeartbeats 1000000 in
set_option maxRecDepth 100000 in
theorem code2 (a b : UInt8) (w : World) :
    Calls Try.prog 9 #[.string ⟨#[a, b]⟩] w fun e w' => e = .returned (.int .i64 (U.code [a, b] : Nat)) ∧ Below w.heap.size w w' := by
  rw [← code2_eq]
  go_enter Try.func9, Try.ntmps9
  go_wp2_with fail
  go_quiet (fail)
  go_wp2_with fail
  go_ret
  exact ⟨rfl, below_drewN (Below.refl _ _) _⟩

set_option maxHeartbeats 1000000 in
set_option maxRecDepth 100000 in
theorem code3 (a b c : UInt8) (w : World) :
    Calls Try.prog 9 #[.string ⟨#[a, b, c]⟩] w fun e w' => e = .returned (.int .i64 (U.code [a, b, c] : Nat)) ∧ Below w.heap.size w w' := by
  rw [← code3_eq]
  go_enter Try.func9, Try.ntmps9
  go_wp2_with fail
  go_quiet (fail)
  go_wp2_with fail
  go_ret
  exact ⟨rfl, below_drewN (Below.refl _ _) _⟩

set_option maxHeartbeats 1000000 in
set_option maxRecDepth 100000 in
theorem code4 (a b c d : UInt8) (w : World) :
    Calls Try.prog 9 #[.string ⟨#[a, b, c, d]⟩] w fun e w' => e = .returned (.int .i64 (U.code [a, b, c, d] : Nat)) ∧ Below w.heap.size w w' := by
  rw [← code4_eq]
  go_enter Try.func9, Try.ntmps9
  go_wp2_with fail
  go_quiet (fail)
  go_wp2_with fail
  go_ret
  exact ⟨rfl, below_drewN (Below.refl _ _) _⟩

theorem refCode (l : List UInt8) (h : l ≠ []) (w : World) :
    Calls Try.prog 9 #[.string ⟨(U.chunk l).toArray⟩] w fun e w' => e = .returned (.int .i64 (U.code (U.chunk l) : Nat)) ∧ Below w.heap.size w w' := by
  have hl := U.chunk_length l h
  match U.chunk l, hl with
  | [], hl => simp at hl
  | [a], _ => exact code1 a w
  | [a, b], _ => exact code2 a b w
  | [a, b, c], _ => exact code3 a b c w
  | [a, b, c, d], _ => exact code4 a b c d w
  | a :: b :: c :: d :: e :: t, hl => simp at hl

end T
end Go.Proofs.Ytlklkbhopdneaaa
