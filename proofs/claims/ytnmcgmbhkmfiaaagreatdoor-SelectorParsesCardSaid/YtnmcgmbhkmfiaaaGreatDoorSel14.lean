/- The reader of selectors: what a part is made of. -/
import Derived.Test.YtnmcgmbhkmfiaaaGreatDoorSel13
set_option linter.unusedVariables false
set_option linter.unusedSimpArgs false
namespace Go.Proofs.YtnmcgmbhkmfiaaaGreatDoor
namespace L

/-- The type of a part: it, what follows, and whether there is one. -/
def headOf (s : List UInt8) : List UInt8 × List UInt8 × Bool := match s with
  | 42 :: r => ([], r, true)
  | _ => match ident s with
    | some (n, r) => (lower n, r, true)
    | none => ([], s, false)

section
variable {np : Option (List UInt8 → Option ((List UInt8 × List Tst) × List UInt8))}
theorem part_eq (s : List UInt8) : part np s = match tests np ((headOf s).2.1.length + 1) (headOf s).2.1 with
  | none => none
  | some (l, u) => if (headOf s).2.2 || !l.isEmpty then some (((headOf s).1, l), u) else none := rfl

theorem headOf_star {r : List UInt8} : headOf (42 :: r) = ([], r, true) := rfl
theorem headOf_name {s n r : List UInt8} (h : ∀ r, s ≠ 42 :: r) (hi : ident s = some (n, r)) : headOf s = (lower n, r, true) := by
  unfold headOf
  split
  · rename_i r' ; exact absurd rfl (h r')
  · rw [hi]
theorem headOf_none {s : List UInt8} (h : ∀ r, s ≠ 42 :: r) (hi : ident s = none) : headOf s = ([], s, false) := by
  unfold headOf
  split
  · rename_i r' ; exact absurd rfl (h r')
  · rw [hi]

theorem one_35 {r : List UInt8} : one np (35 :: r) = some (match ident r with | none => none | some (n, u) => some (⟨tst 1 n, []⟩, u)) := rfl
theorem one_46 {r : List UInt8} : one np (46 :: r) = some (match ident r with | none => none | some (n, u) => some (⟨tst 2 n, []⟩, u)) := rfl
theorem one_91 {r : List UInt8} : one np (91 :: r) = some (match attr r with | none => none | some (t, u) => some (⟨t, []⟩, u)) := rfl
theorem one_none {s : List UInt8} (h1 : ∀ r, s ≠ 35 :: r) (h2 : ∀ r, s ≠ 46 :: r) (h3 : ∀ r, s ≠ 91 :: r) (h4 : ∀ r, s ≠ 58 :: r) : one np s = none := by
  unfold one
  split
  · exact absurd rfl (h1 _)
  · exact absurd rfl (h2 _)
  · exact absurd rfl (h3 _)
  · exact absurd rfl (h4 _)
  · rfl

/-- What has been read of the tests, and what is to come. -/
def PInv (np : Option (List UInt8 → Option ((List UInt8 × List Tst) × List UInt8))) (s : List UInt8) (j : Nat) (bad : Bool) (done : List Test) (full : Option (List Test × List UInt8)) : Prop :=
  (bad = true ∧ full = none) ∨ (bad = false ∧ ∃ n, s.length - j < n ∧ full = (tests np n (s.drop j)).map (fun q => (done ++ q.1, q.2)))

theorem PInv.start {s : List UInt8} {j : Nat} : PInv np s j false [] (tests np ((s.drop j).length + 1) (s.drop j)) := by
  refine Or.inr ⟨rfl, (s.drop j).length + 1, by rw [List.length_drop]; omega, ?_⟩
  cases tests np ((s.drop j).length + 1) (s.drop j) <;> simp

theorem PInv.more {s : List UInt8} {j j' : Nat} {bad' : Bool} {done : List Test} {t : Test} {full : Option (List Test × List UInt8)} {o : Option (Test × List UInt8)}
    (h : PInv np s j false done full) (ho : one np (s.drop j) = some o) (hg : K.Got bad' o (t, s.drop j')) (hj : j < j') (hl : j' ≤ s.length) : PInv np s j' bad' (done ++ [t]) full := by
  rcases h with ⟨h, _⟩ | ⟨_, n, hn, hf⟩
  · cases h
  · obtain ⟨m, rfl⟩ : ∃ m, n = m + 1 := ⟨n - 1, by omega⟩
    unfold tests at hf
    rw [ho] at hf
    rcases hg with ⟨rfl, rfl⟩ | ⟨rfl, rfl⟩
    · exact Or.inl ⟨rfl, by rw [hf]; rfl⟩
    · refine Or.inr ⟨rfl, m, by omega, ?_⟩
      rw [hf]
      dsimp only
      cases tests np m (s.drop j') with
      | none => rfl
      | some q => simp

theorem PInv.last {s : List UInt8} {j : Nat} {done : List Test} {full : Option (List Test × List UInt8)}
    (h : PInv np s j false done full) (ho : one np (s.drop j) = none) : full = some (done, s.drop j) := by
  rcases h with ⟨h, _⟩ | ⟨_, n, hn, hf⟩
  · cases h
  · obtain ⟨m, rfl⟩ : ∃ m, n = m + 1 := ⟨n - 1, by omega⟩
    unfold tests at hf
    rw [ho] at hf
    simpa using hf
end

end L
open Go.RowKit
namespace K
open H

def pzero : Array Value := #[.int .i64 0, .string ⟨#[]⟩, .slice none 0 0]

/-- The reader, the block of the result, the part that is built, and its tests. -/
structure PartSt (b : Nat) (s : List UInt8) (j : Nat) (bad : Bool) (R P : Nat) (ty : List UInt8) (v : Value) (ts : List L.Test) (w0 w : World) : Prop where
  st : RdSt b s j bad R pzero 57 w0 w
  p : Blk P #[.int .i64 0, .string ⟨ty.toArray⟩, v] 57 w
  row : OwnAt cTest ITest (P + 1) 77 6 w v ts
  hP : R < P

section
variable {b : Nat} {s : List UInt8} {j j' : Nat} {bad bad' : Bool} {R P : Nat} {ty : List UInt8} {v : Value} {ts : List L.Test} {w0 w w' : World}
theorem PartSt.step (h : PartSt b s j bad R P ty v ts w0 w) (hr : IsRdr b s j' bad' w') (hB : But b w w') : PartSt b s j' bad' R P ty v ts w0 w' :=
  have h1 := h.st.hb
  have h2 := h.st.hR
  have h3 := h.hP
  ⟨h.st.step hr hB, h.p.but hB (by omega), h.row.keep keeps_test (Kept.but hB (by omega)), h.hP⟩
theorem PartSt.drew (h : PartSt b s j bad R P ty v ts w0 w) : PartSt b s j bad R P ty v ts w0 w.drew :=
  ⟨h.st.drewN 1, h.p, h.row.keep keeps_test ⟨Nat.le_refl _, fun g hg _ => ⟨hg, rfl⟩⟩, h.hP⟩
theorem PartSt.fresh (h : PartSt b s j bad R P ty v ts w0 w) {g : Nat} (hg : w.heap.size ≤ g) : P + 1 ≤ g ∧ v.ownBlock ≠ some g := by
  refine ⟨?_, fun he => ?_⟩
  · have := h.p.lt; omega
  · obtain ⟨ps, h1, h2, _⟩ := h.row
    have := (h2.lt g he).2
    omega

/-- One more test, behind the append. -/
theorem PartSt.app (h : PartSt b s j bad R P ty v ts w0 w) {o : Obj} {w5 : World} {g cap : Nat} {t : L.Test} {nv : Value} {ps : List (L.Test × Value)}
    (hps : ps.map (·.1) = ts) (hI : ∀ p ∈ ps, ITest (fun k => P + 1 ≤ k ∧ v.ownBlock ≠ some k) w p.2 p.1)
    (hown : w5.ownsRow (P + 1) 77 6 (.slice (some ⟨g, 0, none⟩) (ts.length + 1) cap) (ts.length + 1) ((ps.flatMap fun p => cTest p.1 p.2) ++ cTest t nv))
    (hgrow : (w.alloc o).grownBy w5 v.ownBlock) (hat : v.ownBlock = some g ∨ g = w.heap.size + 1) (hx : NotsAt (fun k => P + 1 ≤ k ∧ v.ownBlock ≠ some k) w nv t.nots) :
    PartSt b s j bad R P ty (.slice (some ⟨g, 0, none⟩) (ts.length + 1) cap) (ts ++ [t]) w0 (w5.setCell ⟨P, 2, none⟩ (.slice (some ⟨g, 0, none⟩) (ts.length + 1) cap)) := by
  have ka : ∀ {S : Nat → Prop}, Kept S S w (w.alloc o) := fun {S} => (Kept.refl w).alloc o
  have hv : ∀ k, v.ownBlock = some k → P + 1 ≤ k := fun k hk => by
    obtain ⟨ps, _, h2, _⟩ := h.row
    exact (h2.lt k hk).1
  have hb := h.st.hb
  have hR := h.st.hR
  have hP := h.hP
  have hsz : (w.alloc o).heap.size = w.heap.size + 1 := by simp
  have e1 : ∀ k, k < w.heap.size → k < P + 1 → w5.heap[k]? = w.heap[k]? := fun k h1 h2 =>
    (hgrow.block k (by rw [hsz]; omega) (fun he => by have := hv k he.symm; omega)).trans (Below.heap_alloc w o k h1)
  have r5 : IsRdr b s j bad w5 := (e1 b h.st.lt (by omega)).trans h.st.rdr
  have p5 : Blk P #[.int .i64 0, .string ⟨ty.toArray⟩, v] 57 w5 := (e1 P h.p.lt (by omega)).trans h.p
  have R5 : Blk R pzero 57 w5 := (e1 R h.st.res.lt (by omega)).trans h.st.res
  have b5 : But b w0 w5 := ⟨hgrow.os.trans h.st.but.os, hgrow.tape.trans h.st.but.tape, hgrow.output.trans h.st.but.output, by have := hgrow.size; have := h.st.but.size; omega, fun k hk hne =>
    (e1 k (by have := h.st.but.size; omega) (by omega)).trans (h.st.but.block k hk hne)⟩
  have s5 : RdSt b s j bad R pzero 57 w0 w5 := ⟨r5, R5, b5, hb, hR⟩
  refine ⟨s5.far (by omega) (by omega) 2 _, H.Blk.set p5 2 _, OwnAt.keep keeps_test (w := w5) ?_ ((Kept.refl w5).set (by omega) 2 _), hP⟩
  exact OwnAt.append (I := ITest) (c := cTest) (x := t) (vx := nv) keeps_test (w := w.alloc o) (v := v) ⟨ps, hps, hown, fun p hp => keeps_test (x := p.1) (hI p hp) ka⟩ hgrow (hat.imp id (fun h => by rw [hsz]; omega)) (keeps_nots hx ka)
end

end K
end Go.Proofs.YtnmcgmbhkmfiaaaGreatDoor
