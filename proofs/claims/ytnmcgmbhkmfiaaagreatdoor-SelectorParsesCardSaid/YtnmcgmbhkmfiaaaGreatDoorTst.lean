/- Tests, parts and selectors in memory. -/
import Derived.Test.YtnmcgmbhkmfiaaaGreatDoorOwn
import Derived.Test.YtnmcgmbhkmfiaaaGreatDoorSel12
set_option linter.unusedVariables false
set_option linter.unusedSimpArgs false
namespace Go.Proofs.YtnmcgmbhkmfiaaaGreatDoor
open Go.RowKit
namespace K
open H

/-- A slice of tests without tests of their own. -/
def NotsAt (S : Nat → Prop) (w : World) (v : Value) (l : List L.Tst) : Prop := ListAt (fun t v => (tcells t v).toList) (fun _ _ v _ => v = .slice none 0 0) S w v l

theorem keeps_nots : Keeps NotsAt := fun {_ _ _ _ _ x} h k => ListAt.keep (I := fun _ _ v (_ : L.Tst) => v = .slice none 0 0) (fun h _ => h) h k

/-- What lies behind the slice of a test. -/
def ITest (S : Nat → Prop) (w : World) (v : Value) (t : L.Test) : Prop := NotsAt S w v t.nots
theorem keeps_test : Keeps ITest := fun h k => keeps_nots h k
def cTest (t : L.Test) (v : Value) : List Value := (tcells t.t v).toList
theorem cTest_len (t : L.Test) (v : Value) : (cTest t v).length = 6 := rfl

def TestsAt (S : Nat → Prop) (w : World) (v : Value) (l : List L.Test) : Prop := ListAt cTest ITest S w v l
theorem keeps_tests : Keeps TestsAt := fun h k => ListAt.keep keeps_test h k

def IPart (S : Nat → Prop) (w : World) (v : Value) (p : L.Part) : Prop := TestsAt S w v p.tests
theorem keeps_part : Keeps IPart := fun h k => keeps_tests h k
def cPart (p : L.Part) (v : Value) : List Value := [.int .i64 p.join, .string ⟨p.type.toArray⟩, v]
theorem cPart_len (t : L.Part) (v : Value) : (cPart t v).length = 3 := rfl

def PartsAt (S : Nat → Prop) (w : World) (v : Value) (l : List L.Part) : Prop := ListAt cPart IPart S w v l
theorem keeps_parts : Keeps PartsAt := fun h k => ListAt.keep keeps_part h k

def cSel (_ : List L.Part) (v : Value) : List Value := [v]
theorem cSel_len (t : List L.Part) (v : Value) : (cSel t v).length = 1 := rfl
def SelsAt (S : Nat → Prop) (w : World) (v : Value) (l : List (List L.Part)) : Prop := ListAt cSel PartsAt S w v l
theorem keeps_sels : Keeps SelsAt := fun h k => ListAt.keep keeps_parts h k

theorem NotsAt.none_ {S : Nat → Prop} {w : World} {v : Value} (h : NotsAt S w v []) : v = .slice none 0 0 := by
  obtain ⟨ps, h1, h2, h3⟩ := h
  rcases h2 with ⟨hv, hn⟩ | ⟨g', cap', hv, hn, _⟩
  · exact hv
  · simp at hn

/-- Tests that have no tests of their own. -/
theorem TestsAt.nots {S : Nat → Prop} {w : World} {v : Value} {l : List L.Test} (h : TestsAt S w v l) (hl : ∀ t ∈ l, t.nots = []) : NotsAt S w v (l.map (·.t)) := by
  obtain ⟨ps, rfl, h2, h3⟩ := h
  refine ⟨ps.map (fun p => (p.1.t, p.2)), by simp, ?_, ?_⟩
  · rw [List.flatMap_map]
    simpa [cTest] using h2
  · intro p hp
    obtain ⟨q, hq, rfl⟩ := List.mem_map.1 hp
    have h4 := h3 q hq
    unfold ITest at h4
    rw [hl q.1 (List.mem_map_of_mem hq)] at h4
    exact NotsAt.none_ h4

def npOf (inner : Bool) : Option (List UInt8 → Option ((List UInt8 × List L.Tst) × List UInt8)) := if inner then none else some L.inner

def TestPost (b : Nat) (s : List UInt8) (i : Nat) (inner : Bool) (o : Option (L.Test × List UInt8)) (w : World) (e : Ending) (w' : World) : Prop :=
  ∃ (t : L.Test) (nv : Value) (j : Nat) (bad' : Bool), e = .returned (tval t.t nv) ∧ Hid (NotsAt (w.heap.size ≤ ·) w' nv t.nots) ∧ IsRdr b s j bad' w' ∧ But b w w' ∧ i ≤ j ∧ j ≤ s.length ∧ Hid (inner = true → t.nots = []) ∧ Hid (Got bad' o (t, s.drop j))

/-- A part's value: its type, and the tests behind v. -/
def PartPost (b : Nat) (s : List UInt8) (i : Nat) (inner : Bool) (o : Option ((List UInt8 × List L.Test) × List UInt8)) (w : World) (e : Ending) (w' : World) : Prop :=
  ∃ (ty : List UInt8) (v : Value) (ts : List L.Test) (j : Nat) (bad' : Bool), e = .returned (.agg #[.int .i64 0, .string ⟨ty.toArray⟩, v]) ∧ Hid (TestsAt (w.heap.size ≤ ·) w' v ts) ∧ IsRdr b s j bad' w' ∧ But b w w' ∧ i ≤ j ∧ j ≤ s.length ∧ ty.length ≤ s.length ∧ Hid (ts.length ≤ j - i) ∧ Hid (inner = true → ∀ t ∈ ts, t.nots = []) ∧ Hid (Got bad' o ((ty, ts), s.drop j))

theorem RdSt.farSix {b : Nat} {s : List UInt8} {j : Nat} {bad : Bool} {R : Nat} {r : Array Value} {T : TypeId} {w0 w : World} (h : RdSt b s j bad R r T w0 w) {k : Nat} (hk : w0.heap.size ≤ k) (hkR : R ≠ k) (v0 v1 v2 v3 v4 v5 : Value) :
    RdSt b s j bad R r T w0 ((((((w.setCell ⟨k, 0, none⟩ v0).setCell ⟨k, 1, none⟩ v1).setCell ⟨k, 2, none⟩ v2).setCell ⟨k, 3, none⟩ v3).setCell ⟨k, 4, none⟩ v4).setCell ⟨k, 5, none⟩ v5) :=
  (((((h.far hk hkR 0 v0).far hk hkR 1 v1).far hk hkR 2 v2).far hk hkR 3 v3).far hk hkR 4 v4).far hk hkR 5 v5
theorem Blk.six {g : Nat} {T : TypeId} {w : World} (h : Blk g tzero T w) (v0 v1 v2 v3 v4 v5 : Value) :
    Blk g #[v0, v1, v2, v3, v4, v5] T ((((((w.setCell ⟨g, 0, none⟩ v0).setCell ⟨g, 1, none⟩ v1).setCell ⟨g, 2, none⟩ v2).setCell ⟨g, 3, none⟩ v3).setCell ⟨g, 4, none⟩ v4).setCell ⟨g, 5, none⟩ v5) :=
  (((((H.Blk.set h 0 v0).set 1 v1).set 2 v2).set 3 v3).set 4 v4).set 5 v5

theorem need_none {p r : List UInt8} (h : p.isPrefixOf r = false) : L.need p r = none := by unfold L.need; rw [if_neg (by rw [h]; simp)]
theorem need_some {p r : List UInt8} (h : p.isPrefixOf r = true) : L.need p r = some (r.drop p.length) := by unfold L.need; rw [if_pos h]

end K
end Go.Proofs.YtnmcgmbhkmfiaaaGreatDoor
