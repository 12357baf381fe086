/- A region that draws its order, whose operations read what was there and whose callees only make memory: one walk, in the order of the text. -/
import Derived.Deep.QuietTactic
import Derived.BigQuiet
import Derived.Below
set_option linter.unusedVariables false
namespace Go.Proofs.YtafkeolpadfjfaaGreatDoor
open Go.RowKit

/-- A world behind w0, in which all blocks below B are as they were. -/
structure Later (B : Nat) (w0 : World) where
  w : World
  h : Below B w0 w

instance laterNonempty (B : Nat) (w0 : World) : Nonempty (Later B w0) := ⟨⟨w0, Below.refl _ _⟩⟩

theorem Later.cell {w0 : World} {g o : Nat} {v : Value} (h : w0.cell? ⟨g, o, none⟩ = some v) (hp : g < w0.heap.size) (d : Later w0.heap.size w0) : d.w.cell? ⟨g, o, none⟩ = some v := (d.h.cell (p := ⟨g, o, none⟩) hp).trans h

theorem wp_region_later {P : Program} {id : Nat} {Q : Exit → Act → World → Prop} {a : Act} {w : World} {l : List Oper} (hm : P.follows .mixedOrders = true) (hB : Region.lexB .any l.toArray = true)
    (h : wpQuiet P l.toArray (fun w' => ∃ d : Later w.heap.size w, w' = d.w) (fun a' => ∀ w', (∃ d : Later w.heap.size w, w' = d.w) → Q .normal a' w') l a) : (Code.region id l.toArray true).wp P Q a w :=
  wp_region_quiet (C := fun w' => ∃ d : Later w.heap.size w, w' = d.w) hm hB ⟨⟨{ w with drawn := w.drawn + 1 }, ⟨rfl, rfl, rfl, Nat.le_refl _, fun _ _ => rfl⟩⟩, rfl⟩ (by simpa using h)

theorem Calls.later {P : Program} {f : FuncId} {args : Array Value} {w0 : World} {d : Later w0.heap.size w0} {v : Value}
    (h : Calls P f args d.w fun e w' => e = .returned v ∧ Below d.w.heap.size d.w w') : Calls P f args d.w fun e w'' => e = .returned v ∧ ∃ d' : Later w0.heap.size w0, w'' = d'.w :=
  h.mono fun _ _ h => ⟨h.1, ⟨_, d.h.trans (h.2.mono d.h.size)⟩, rfl⟩

theorem Calls.later_same {P : Program} {f : FuncId} {args : Array Value} {w0 : World} {d : Later w0.heap.size w0} {v : Value}
    (h : Calls P f args d.w fun e w' => e = .returned v ∧ d.w = w') : Calls P f args d.w fun e w'' => e = .returned v ∧ ∃ d' : Later w0.heap.size w0, w'' = d'.w :=
  h.mono fun _ _ h => ⟨h.1, d, h.2.symm⟩

end Go.Proofs.YtafkeolpadfjfaaGreatDoor
