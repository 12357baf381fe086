/- An entry of the table of pseudo-classes. -/
import Derived.Test.YtnmcgmbhkmfiaaaGreatDoorTst
set_option linter.unusedVariables false
set_option linter.unusedSimpArgs false
namespace Go.Proofs.YtnmcgmbhkmfiaaaGreatDoor
open Go.RowKit
namespace K
open H

theorem infoPseudo : (Tryz.prog.info? 103).map (·.size) = some 2 := by kernel_rfl
theorem undPseudo : (match Tryz.prog.underlying 103 with | some (.struct _) => true | _ => false) = true := by kernel_rfl
theorem undPseudos : Tryz.prog.underlying 104 = some (.array 6 103) := by kernel_rfl

def pname (k : Nat) : List UInt8 := (L.pseudos.getD k ([], 0)).1
def pkind (k : Nat) : Nat := (L.pseudos.getD k ([], 0)).2
def pcells : Array Value := #[.string ⟨(pname 0).toArray⟩, .int .i64 (pkind 0), .string ⟨(pname 1).toArray⟩, .int .i64 (pkind 1), .string ⟨(pname 2).toArray⟩, .int .i64 (pkind 2), .string ⟨(pname 3).toArray⟩, .int .i64 (pkind 3), .string ⟨(pname 4).toArray⟩, .int .i64 (pkind 4), .string ⟨(pname 5).toArray⟩, .int .i64 (pkind 5)]

theorem pseudo_at {k : Nat} (hk : k < 6) (kk : IntKind) (w : World) :
    (Instr.index 104 (.agg pcells) (.int kk (k : Int))).run Tryz.prog w = .ok (.agg #[.string ⟨(pname k).toArray⟩, .int .i64 (pkind k)]) w := by
  have h1 := undPseudos
  have h2 := undPseudo
  obtain ⟨i, hi, hs⟩ := Option.map_eq_some_iff.1 infoPseudo
  have hin : (0 : Int) ≤ (k : Int) ∧ (k : Int) < ((6 : Nat) : Int) := by omega
  cases hu : Tryz.prog.underlying 103 with
  | none => rw [hu] at h2; cases h2
  | some u =>
    rw [hu] at h2
    cases u <;> first | (cases h2; done) | skip
    rcases (by omega : k = 0 ∨ k = 1 ∨ k = 2 ∨ k = 3 ∨ k = 4 ∨ k = 5) with rfl | rfl | rfl | rfl | rfl | rfl
    all_goals
      simp [Instr.index, run_underlying h1, asIntOf, go_sem, part, isAgg, run_underlying hu, sizeOf, typeInfo, hi, hs]
      rfl

end K
end Go.Proofs.YtnmcgmbhkmfiaaaGreatDoor
