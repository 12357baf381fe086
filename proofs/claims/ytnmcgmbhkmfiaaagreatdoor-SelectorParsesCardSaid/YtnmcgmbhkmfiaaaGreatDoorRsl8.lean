/- What the functions of the reference's reader come to: the state of part. -/
import Derived.Test.YtnmcgmbhkmfiaaaGreatDoorRslT
import Derived.Test.YtnmcgmbhkmfiaaaGreatDoorSel15
import Derived.Test.YtnmcgmbhkmfiaaaGreatDoorOwn
set_option linter.unusedVariables false
set_option linter.unusedSimpArgs false
namespace Go.Proofs.YtnmcgmbhkmfiaaaGreatDoor
open Go.RowKit
namespace H
section
variable {α : Type} {c : α → Value → List Value} {I : (Nat → Prop) → World → Value → α → Prop} {S S' : Nat → Prop} {w w' : World} {v : Value} {l : List α} {base size : Nat} {e : TypeId}
/-- The blocks that are taken so far. -/
theorem OwnIn.thin (hI : Keeps I) (h : OwnIn c I S base e size w v l) (hS : ∀ g, S g → g < w.heap.size → S' g) : OwnIn c I S' base e size w v l := by
  obtain ⟨ps, h1, h2, h3, h4, h5⟩ := h
  exact ⟨ps, h1, h2, fun p hp => hI (h3 p hp) ⟨Nat.le_refl _, fun g hg hlt => ⟨⟨hS g hg.1 hlt, hg.2⟩, rfl⟩⟩, h4, fun g hg => hS g (h5 g hg) (h2.lt g hg).2⟩
end
end H
namespace F
open H K

/-- The reader, the block of the result, the part that is built, and its tests (their blocks are those of S). -/
structure FPSt (b : Nat) (s : List UInt8) (j : Nat) (bad : Bool) (R P : Nat) (ty : List UInt8) (v : Value) (ts : List L.Test) (S : Nat → Prop) (w0 w : World) : Prop where
  st : FdSt b s j bad R pzero 62 w0 w
  p : Blk P #[.int .i64 0, .string ⟨ty.toArray⟩, v] 62 w
  row : OwnIn cTest ITest S (P + 1) 88 6 w v ts
  hP : R < P
  hS : ∀ g, S g → P + 1 ≤ g

theorem infoTest : (Tryz.prog.info? 88).map (fun i => (i.zero, i.size, i.bytes)) = some (some (.agg tzero), 6, 80) := by kernel_rfl

theorem FPSt.start {b : Nat} {s : List UInt8} {i : Nat} {bad : Bool} {w : World} (hR : IsRdF b s i bad w) :
    FPSt b s i bad w.heap.size (w.heap.size + 1) [] (.slice none 0 0) [] (w.heap.size + 1 + 1 ≤ ·) w ((w.alloc (.cells pzero 62)).alloc (.cells pzero 62)) := by
  refine ⟨(FdSt.new hR pzero _).alloc _, ?_, OwnIn.nil, Nat.lt_succ_self _, fun g h => h⟩
  have := Blk.new (w.alloc (.cells pzero 62)) pzero 62
  have e : (w.alloc (.cells pzero 62)).heap.size = w.heap.size + 1 := by simp
  rw [e] at this
  exact this

section
variable {b : Nat} {s : List UInt8} {j j' : Nat} {bad bad' : Bool} {R P : Nat} {ty : List UInt8} {v : Value} {ts : List L.Test} {S S' : Nat → Prop} {w0 w w' : World}
theorem FPSt.hb (h : FPSt b s j bad R P ty v ts S w0 w) : b < R := by have := h.st.hb; have := h.st.hR; omega
theorem FPSt.step (h : FPSt b s j bad R P ty v ts S w0 w) (hr : IsRdF b s j' bad' w') (hB : But b w w') : FPSt b s j' bad' R P ty v ts S w0 w' :=
  have h1 := h.hb
  have h3 := h.hP
  ⟨h.st.step hr hB, h.p.but hB (by omega), h.row.keep keeps_test ⟨hB.size, fun g hg hlt => ⟨hg, hB.block g hlt (by have := h.hS g hg; omega)⟩⟩, h.hP, h.hS⟩
theorem FPSt.drewN (h : FPSt b s j bad R P ty v ts S w0 w) (n : Nat) : FPSt b s j bad R P ty v ts S w0 (w.drewN n) :=
  ⟨h.st.drewN n, h.p, h.row.keep keeps_test ⟨Nat.le_refl _, fun g hg _ => ⟨hg, rfl⟩⟩, h.hP, h.hS⟩
theorem FPSt.below (h : FPSt b s j bad R P ty v ts S w0 w) (hB : Below w.heap.size w w') : FPSt b s j bad R P ty v ts S w0 w' := h.step (h.st.rdr.below hB) (But.of hB)
theorem FPSt.alloc (h : FPSt b s j bad R P ty v ts S w0 w) (o : Obj) : FPSt b s j bad R P ty v ts S w0 (w.alloc o) :=
  ⟨h.st.alloc o, h.p.alloc o, h.row.keep keeps_test ((Kept.refl w).alloc o), h.hP, h.hS⟩
theorem FPSt.thin (h : FPSt b s j bad R P ty v ts S w0 w) (hS : ∀ g, S g → g < w.heap.size → S' g) (hS' : ∀ g, S' g → P + 1 ≤ g) : FPSt b s j bad R P ty v ts S' w0 w :=
  ⟨h.st, h.p, h.row.thin keeps_test hS, h.hP, hS'⟩
theorem FPSt.typed (h : FPSt b s j bad R P ty v ts S w0 w) (t : List UInt8) : FPSt b s j bad R P t v ts S w0 (w.setCell ⟨P, 1, none⟩ (.string ⟨t.toArray⟩)) :=
  have h1 := h.hb
  have h2 := h.st.hR
  have h3 := h.hP
  ⟨h.st.far (by omega) (by omega) 1 _, H.Blk.set h.p 1 _, h.row.keep keeps_test ((Kept.refl w).set (fun hk => by have := h.hS _ hk; omega) 1 _), h.hP, h.hS⟩
theorem FPSt.fail_ (h : FPSt b s j bad R P ty v ts S w0 w) {B : Bool} : FPSt b s j B R P ty v ts S w0 (w.setCell ⟨b, 2, none⟩ (.bool B)) :=
  have h1 := h.hb
  have h3 := h.hP
  ⟨⟨block_set (o := 2) h.st.rdr, h.st.res.far (by omega) 2 _, h.st.but.trans (But.set _ _ _), h.st.hb, h.st.hR⟩, h.p.far (by omega) 2 _, h.row.keep keeps_test ((Kept.refl w).set (fun hk => by have := h.hS _ hk; omega) 2 _), h.hP, h.hS⟩
/-- A block of the round's own. -/
theorem FPSt.six (h : FPSt b s j bad R P ty v ts S w0 w) {k : Nat} (hk : P < k) (hS : ¬ S k) (v0 v1 v2 v3 v4 v5 : Value) :
    FPSt b s j bad R P ty v ts S w0 ((((((w.setCell ⟨k, 0, none⟩ v0).setCell ⟨k, 1, none⟩ v1).setCell ⟨k, 2, none⟩ v2).setCell ⟨k, 3, none⟩ v3).setCell ⟨k, 4, none⟩ v4).setCell ⟨k, 5, none⟩ v5) :=
  have h1 := h.hb
  have h2 := h.st.hR
  have h3 := h.hP
  ⟨h.st.farSix (by omega) (by omega) v0 v1 v2 v3 v4 v5, (((((h.p.far (by omega) 0 v0).far (by omega) 1 v1).far (by omega) 2 v2).far (by omega) 3 v3).far (by omega) 4 v4).far (by omega) 5 v5,
    h.row.keep keeps_test ((Kept.refl w).six hS v0 v1 v2 v3 v4 v5), h.hP, h.hS⟩
/-- The fields of the part into the result. -/
theorem FPSt.three (h : FPSt b s j bad R P ty v ts S w0 w) (v0 v1 v2 : Value) :
    IsRdF b s j bad (((w.setCell ⟨R, 0, none⟩ v0).setCell ⟨R, 1, none⟩ v1).setCell ⟨R, 2, none⟩ v2) ∧ But b w0 (((w.setCell ⟨R, 0, none⟩ v0).setCell ⟨R, 1, none⟩ v1).setCell ⟨R, 2, none⟩ v2) ∧
    TestsAt (w0.heap.size ≤ ·) (((w.setCell ⟨R, 0, none⟩ v0).setCell ⟨R, 1, none⟩ v1).setCell ⟨R, 2, none⟩ v2) v ts := by
  have h1 := ((h.st.set 0 v0).set 1 v1).set 2 v2
  have h2 := h.st.hR
  have h3 := h.hP
  refine ⟨h1.rdr, h1.but, ?_⟩
  have hn : ¬ S R := fun hk => by have := h.hS _ hk; omega
  exact keeps_tests (ListAt.keep keeps_test (OwnIn.list keeps_test h.row) ((((Kept.refl w).set (k := R) hn 0 v0).set hn 1 v1).set hn 2 v2)) (Kept.wide (fun g hg => by have := h.hS g hg; show w0.heap.size ≤ g; omega))
theorem FPSt.fresh (h : FPSt b s j bad R P ty v ts S w0 w) {g : Nat} (hg : w.heap.size ≤ g) : P + 1 ≤ g ∧ v.ownBlock ≠ some g := by
  refine ⟨by have := h.p.lt; omega, fun he => ?_⟩
  have := (h.row.lt he).2.2
  omega

/-- One more test, behind the append. -/
theorem FPSt.app (h : FPSt b s j bad R P ty v ts S w0 w) {w5 : World} {g cap : Nat} {t : L.Test} {nv : Value} {qs : List (L.Test × Value)}
    (hqs : qs.map (·.1) = ts) (hI : ∀ q ∈ qs, ITest (fun k => S k ∧ v.ownBlock ≠ some k) w q.2 q.1)
    (hown : w5.ownsRow (P + 1) 88 6 (.slice (some ⟨g, 0, none⟩) (ts.length + 1) cap) (ts.length + 1) ((qs.flatMap fun p => cTest p.1 p.2) ++ cTest t nv))
    (hgrow : w.grownBy w5 v.ownBlock) (hat : v.ownBlock = some g ∨ g = w.heap.size) (hnew : S w.heap.size) (hx : NotsAt (fun k => S k ∧ v.ownBlock ≠ some k) w nv t.nots) :
    FPSt b s j bad R P ty (.slice (some ⟨g, 0, none⟩) (ts.length + 1) cap) (ts ++ [t]) S w0 (w5.setCell ⟨P, 2, none⟩ (.slice (some ⟨g, 0, none⟩) (ts.length + 1) cap)) := by
  have hv : ∀ k, v.ownBlock = some k → P + 1 ≤ k := fun k hk => h.hS _ (h.row.lt hk).1
  have hb := h.hb
  have hb0 := h.st.hb
  have hR := h.st.hR
  have hP := h.hP
  have e1 : ∀ k, k < w.heap.size → k < P + 1 → w5.heap[k]? = w.heap[k]? := fun k h1 h2 =>
    hgrow.block k h1 (fun he => by have := hv k he.symm; omega)
  have r5 : IsRdF b s j bad w5 := (e1 b h.st.lt (by omega)).trans h.st.rdr
  have p5 : Blk P #[.int .i64 0, .string ⟨ty.toArray⟩, v] 62 w5 := (e1 P h.p.lt (by omega)).trans h.p
  have R5 : Blk R pzero 62 w5 := (e1 R h.st.res.lt (by omega)).trans h.st.res
  have b5 : But b w0 w5 := ⟨hgrow.os.trans h.st.but.os, hgrow.tape.trans h.st.but.tape, hgrow.output.trans h.st.but.output, by have := hgrow.size; have := h.st.but.size; omega, fun k hk hne =>
    (e1 k (by have := h.st.but.size; omega) (by omega)).trans (h.st.but.block k hk hne)⟩
  have s5 : FdSt b s j bad R pzero 62 w0 w5 := ⟨r5, R5, b5, h.st.hb, h.st.hR⟩
  have hn : ¬ S P := fun hk => by have := h.hS _ hk; omega
  refine ⟨s5.far (by omega) (by omega) 2 _, H.Blk.set p5 2 _, OwnIn.keep keeps_test (w := w5) ?_ ((Kept.refl w5).set hn 2 _), hP, h.hS⟩
  refine OwnIn.append (I := ITest) (c := cTest) (x := t) (vx := nv) keeps_test (w := w) (v := v) hqs hown hI hgrow ?_ hx
  rcases hat with h1 | h1
  · exact Or.inl ⟨h1, (h.row.lt h1).1⟩
  · exact Or.inr ⟨by omega, by rw [h1]; exact hnew⟩
theorem FPSt.p5 (h : FPSt b s j bad R P ty v ts S w0 w) {w5 : World} (hgrow : w.grownBy w5 v.ownBlock) : Blk P #[.int .i64 0, .string ⟨ty.toArray⟩, v] 62 w5 :=
  (hgrow.block P h.p.lt (fun he => by have := h.hS _ (h.row.lt he.symm).1; omega)).trans h.p
end

theorem begins_star (r : List UInt8) : L.begins (42 :: r) = false := by
  cases r with
  | nil => rfl
  | cons d u => rfl

theorem ident_begins {s : List UInt8} (h : L.begins s = true) : ∃ n r, L.ident s = some (n, r) := ⟨_, _, by unfold L.ident; rw [h]; rfl⟩
theorem ident_no {s : List UInt8} (h : L.begins s = false) : L.ident s = none := by unfold L.ident; rw [h]; rfl

/-- A name at the head. -/
theorem head_name {s t : List UInt8} {i j : Nat} (hb : L.begins (s.drop i) = true) (h : L.ident (s.drop i) = some (t, s.drop j)) : HeadOk s i (L.lower t) j true := by
  have hn : ∀ r, s.drop i ≠ 42 :: r := fun r hr => by rw [hr, begins_star] at hb; cases hb
  refine ⟨L.headOf_name hn h, Or.inl ⟨rfl, ?_⟩⟩
  have hid0 : L.ident (s.drop i) = some ((s.drop i).takeWhile L.inName, (s.drop i).dropWhile L.inName) := by unfold L.ident; rw [hb]; rfl
  have hlt : (s.drop j).length < (s.drop i).length := by
    rw [hid0] at h
    obtain ⟨h1, h2⟩ := Prod.mk.inj (Option.some.inj h)
    rw [← h2, ← drop_tw, List.length_drop]
    cases hd : s.drop i with
    | nil => rw [hd] at hb; exact absurd hb (by decide)
    | cons c r =>
      rw [hd] at hb
      have hin : L.inName c = true := begins_in hb
      rw [List.takeWhile_cons_of_pos hin]; simp; omega
  rw [List.length_drop, List.length_drop] at hlt
  omega
theorem head_star {s : List UInt8} {i j : Nat} (hj : j = i + 1) (h : s.drop i = 42 :: s.drop j) : HeadOk s i [] j true :=
  ⟨by rw [h]; rfl, Or.inl ⟨rfl, by omega⟩⟩
theorem head_none {s : List UInt8} {i : Nat} (hb : L.begins (s.drop i) = false) (h : ∀ r, s.drop i ≠ 42 :: r) : HeadOk s i [] i false :=
  ⟨L.headOf_none h (ident_no hb), Or.inr ⟨rfl, rfl⟩⟩

/-- What a part's reading comes to, behind its tests. -/
theorem part_gotF {np : Option (List UInt8 → Option ((List UInt8 × List L.Tst) × List UInt8))} {s : List UInt8} {i j0 j : Nat} {ty : List UInt8} {hb : Bool} {ts : List L.Test}
    (hh : HeadOk s i ty j0 hb) (hf : L.tests np ((s.drop j0).length + 1) (s.drop j0) = some (ts, s.drop j)) :
    Got (!(hb || !ts.isEmpty)) (L.part np (s.drop i)) ((ty, ts), s.drop j) := by
  rw [L.part_eq, hh.1, hf]
  dsimp only
  cases hq : (hb || !ts.isEmpty) with
  | true => exact Got.yes rfl
  | false => exact Got.no rfl

/-- What a round has read of a part. -/
def FPartRel (b : Nat) (s : List UInt8) (i j0 : Nat) (inner bad : Bool) (R P : Nat) (ty : List UInt8) (full : Option (List L.Test × List UInt8)) (hb : Bool) (w wr : World) (j : Nat) (bad2 : Bool) (q : Bool) : Prop :=
  ∃ v ts, FPSt b s j bad2 R P ty v ts (P + 1 ≤ ·) w wr ∧ ts.length ≤ j - i ∧ q = (hb || !ts.isEmpty) ∧ ((bad = true → bad2 = true) ∧ (bad = false → L.PInv (npOf inner) s j bad2 ts full)) ∧ (inner = true → ∀ t ∈ ts, t.nots = [])

/-- A round's test is read, and lies in the round's own block. -/
def FRound (b : Nat) (s : List UInt8) (j : Nat) (inner : Bool) (R P TB : Nat) (ty : List UInt8) (v : Value) (ts : List L.Test) (w wx : World) : Prop :=
  ∃ (t : L.Test) (nv : Value) (j2 : Nat) (bad2 : Bool), FPSt b s j2 bad2 R P ty v ts (fun k => P + 1 ≤ k ∧ k ≠ TB) w wx ∧ Blk TB (tcells t.t nv) 88 wx ∧
    NotsAt (fun k => (P + 1 ≤ k ∧ k ≠ TB) ∧ v.ownBlock ≠ some k) wx nv t.nots ∧ j < j2 ∧ j2 ≤ s.length ∧ (inner = true → t.nots = []) ∧ (∃ o, L.one (npOf inner) (s.drop j) = some o ∧ Got bad2 o (t, s.drop j2))

end F
end Go.Proofs.YtnmcgmbhkmfiaaaGreatDoor
