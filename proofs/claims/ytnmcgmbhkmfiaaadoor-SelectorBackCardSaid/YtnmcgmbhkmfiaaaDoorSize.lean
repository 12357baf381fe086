/- What the reference's Size comes to: the plain function sz at the place. -/
import Derived.Test.YtnmcgmbhkmfiaaaDoorRef
set_option linter.unusedVariables false
set_option linter.unusedSimpArgs false
namespace Go.Proofs.YtnmcgmbhkmfiaaaDoor
open Go.RowKit
namespace T

theorem sz_at (l : List UInt8) (k : Nat) : U.sz (l.drop k) =
    if U.rng l k 0 127 then 1
    else if U.rng l k 194 223 && tl l (k + 1) 1 then 2
    else if U.rng l k 224 239 && (U.second (l.drop k) && tl l (k + 2) 1) then 3
    else if U.rng l k 240 244 && (U.second (l.drop k) && tl l (k + 2) 2) then 4
    else 0 := by
  unfold U.sz
  simp only [rng_drop, Nat.add_zero, tl, Bool.true_and]

theorem rng_other {l : List UInt8} {k lo hi lo' hi' : Nat} (h : U.rng l k lo hi = true) (hd : hi < lo') : U.rng l k lo' hi' = false := by
  rw [Bool.eq_false_iff]
  intro e
  rw [U.rng_iff] at h e
  omega

theorem rng_lt {s : ByteArray} {k lo hi : Nat} (h : U.rng s.data.toList k lo hi = true) : k < s.size := by
  rw [U.rng_iff] at h
  simpa using h.1

end T
end Go.Proofs.YtnmcgmbhkmfiaaaDoor
