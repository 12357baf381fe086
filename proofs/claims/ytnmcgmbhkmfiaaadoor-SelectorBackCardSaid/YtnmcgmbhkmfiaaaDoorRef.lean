/- What the reference's in, tail, second, Size and Code come to, in the words of the plain UTF-8 facts. -/
import Derived.Test.YtnmcgmbhkmfiaaaDoorSpace
import Derived.BigQuiet
import Derived.Deep.QuietTactic
import Derived.Laws.BitsLemmas
set_option linter.unusedVariables false
set_option linter.unusedSimpArgs false
namespace Go.Proofs.YtnmcgmbhkmfiaaaDoor
open Go.RowKit
namespace T

theorem getD_at (s : ByteArray) (k : Nat) (h : k < s.size) : s.data.toList.getD k 0 = s[k] := by
  have h' : k < s.data.toList.length := by simpa using h
  rw [List.getD, List.getElem?_eq_getElem h']
  rfl

theorem rng_yes (s : ByteArray) (k lo hi : Nat) (h : k < s.size) (h1 : lo ≤ s[k].toNat) (h2 : s[k].toNat ≤ hi) : U.rng s.data.toList k lo hi = true := by
  rw [U.rng_iff, getD_at s k h]
  exact ⟨by simpa using h, h1, h2⟩
theorem rng_short (s : ByteArray) (k lo hi : Nat) (h : ¬ k < s.size) : U.rng s.data.toList k lo hi = false := by
  rw [Bool.eq_false_iff]
  intro e
  rw [U.rng_iff] at e
  exact h (by simpa using e.1)
theorem rng_no (s : ByteArray) (k lo hi : Nat) (h : k < s.size) (h1 : ¬ (lo ≤ s[k].toNat ∧ s[k].toNat ≤ hi)) : U.rng s.data.toList k lo hi = false := by
  rw [Bool.eq_false_iff]
  intro e
  rw [U.rng_iff, getD_at s k h] at e
  exact h1 e.2

theorem ret_bool {a b : Bool} (h : a = b) : Ending.returned (.bool a) = .returned (.bool b) := by rw [h]
theorem ret_int {k : IntKind} {a b : Int} (h : a = b) : Ending.returned (.int k a) = .returned (.int k b) := by rw [h]

theorem rng_drop (l : List UInt8) (i k lo hi : Nat) : U.rng (l.drop i) k lo hi = U.rng l (i + k) lo hi := by
  unfold U.rng
  rw [U.getD_drop, List.length_drop]
  rw [decide_eq_decide]
  omega

/-- n continuation bytes. -/
def tl (l : List UInt8) (i : Nat) : Nat → Bool
  | 0 => true
  | n + 1 => tl l i n && U.rng l (i + n) 128 191

theorem tl_false (l : List UInt8) (i k : Nat) (h : U.rng l (i + k) 128 191 = false) : ∀ n, k < n → tl l i n = false
  | 0, hk => by omega
  | n + 1, hk => by
    by_cases e : k = n
    · subst e; simp [tl, h]
    · simp [tl, tl_false l i k h n (by omega)]

theorem second_eq (s : ByteArray) (k : Nat) (h : k < s.size) : U.second (s.data.toList.drop k) =
    if s[k].toNat = 224 then U.rng s.data.toList (k + 1) 160 191
    else if s[k].toNat = 237 then U.rng s.data.toList (k + 1) 128 159
    else if s[k].toNat = 240 then U.rng s.data.toList (k + 1) 144 191
    else if s[k].toNat = 244 then U.rng s.data.toList (k + 1) 128 143
    else U.rng s.data.toList (k + 1) 128 191 := by
  unfold U.second
  simp only [U.getD_drop, Nat.add_zero, getD_at s k h, rng_drop]

end T
end Go.Proofs.YtnmcgmbhkmfiaaaDoor
