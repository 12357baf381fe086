/- What the functions of the reference's reader come to: the state of selector. -/
import Derived.Test.YtnmcgmbhkmfiaaaGreatDoorRsl9
import Derived.Test.YtnmcgmbhkmfiaaaGreatDoorSel17
set_option linter.unusedVariables false
set_option linter.unusedSimpArgs false
namespace Go.Proofs.YtnmcgmbhkmfiaaaGreatDoor
open Go.RowKit
namespace F
open H K

/-- The reader, the block of the result, and the parts so far (X holds their slice). -/
structure FSelSt (b : Nat) (s : List UInt8) (j : Nat) (bad : Bool) (R X : Nat) (v : Value) (ps : List L.Part) (w0 w : World) : Prop where
  st : FdSt b s j bad R #[.slice none 0 0] 32 w0 w
  x : Blk X #[v] 32 w
  row : OwnIn cPart IPart (fun k => R + 1 ≤ k ∧ k ≠ X) (R + 1) 62 3 w v ps
  hX : R < X

section
variable {b : Nat} {s : List UInt8} {j j' : Nat} {bad bad' : Bool} {R X : Nat} {v : Value} {ps : List L.Part} {w0 w w' : World}
theorem FSelSt.step (h : FSelSt b s j bad R X v ps w0 w) (hr : IsRdF b s j' bad' w') (hB : But b w w') : FSelSt b s j' bad' R X v ps w0 w' :=
  have h1 := h.st.hb
  have h2 := h.st.hR
  have h3 := h.hX
  ⟨h.st.step hr hB, h.x.but hB (by omega), h.row.keep keeps_part ⟨hB.size, fun g hg hlt => ⟨hg, hB.block g hlt (by omega)⟩⟩, h.hX⟩
theorem FSelSt.drewN (h : FSelSt b s j bad R X v ps w0 w) (n : Nat) : FSelSt b s j bad R X v ps w0 (w.drewN n) :=
  ⟨h.st.drewN n, h.x, h.row.keep keeps_part ⟨Nat.le_refl _, fun g hg _ => ⟨hg, rfl⟩⟩, h.hX⟩
theorem FSelSt.alloc (h : FSelSt b s j bad R X v ps w0 w) (o : Obj) : FSelSt b s j bad R X v ps w0 (w.alloc o) :=
  ⟨h.st.alloc o, h.x.alloc o, h.row.keep keeps_part ((Kept.refl w).alloc o), h.hX⟩
theorem FSelSt.fail_ (h : FSelSt b s j bad R X v ps w0 w) {B : Bool} : FSelSt b s j B R X v ps w0 (w.setCell ⟨b, 2, none⟩ (.bool B)) :=
  have h1 := h.st.hb
  have h2 := h.st.hR
  have h3 := h.hX
  ⟨⟨block_set (o := 2) h.st.rdr, h.st.res.far (by omega) 2 _, h.st.but.trans (But.set _ _ _), h1, h2⟩, h.x.far (by omega) 2 _, h.row.keep keeps_part ((Kept.refl w).set (by omega) 2 _), h3⟩
theorem FSelSt.place (h : FSelSt b s j bad R X v ps w0 w) {z : Int} (k : Nat) (hz : z = (k : Int)) : FSelSt b s k bad R X v ps w0 (w.setCell ⟨b, 1, none⟩ (.int .i64 z)) :=
  have h1 := h.st.hb
  have h2 := h.st.hR
  have h3 := h.hX
  ⟨⟨h.st.rdr.place k hz, h.st.res.far (by omega) 1 _, h.st.but.trans (But.set _ _ _), h1, h2⟩, h.x.far (by omega) 1 _, h.row.keep keeps_part ((Kept.refl w).set (by omega) 1 _), h3⟩
/-- The parts into the result. -/
theorem FSelSt.give (h : FSelSt b s j bad R X v ps w0 w) : IsRdF b s j bad (w.setCell ⟨R, 0, none⟩ v) ∧ But b w0 (w.setCell ⟨R, 0, none⟩ v) ∧ PartsAt (w0.heap.size ≤ ·) (w.setCell ⟨R, 0, none⟩ v) v ps := by
  have h1 := h.st.set 0 v
  have h2 := h.st.hR
  refine ⟨h1.rdr, h1.but, ?_⟩
  have k1 : Kept (fun k => R + 1 ≤ k ∧ k ≠ X) (fun k => R + 1 ≤ k ∧ k ≠ X) w (w.setCell ⟨R, 0, none⟩ v) := (Kept.refl w).set (by omega) 0 v
  exact ListAt.keep keeps_part (OwnIn.list keeps_part h.row) (k1.trans (Kept.wide (fun g hg => (by show w0.heap.size ≤ g; omega))))
theorem FSelSt.fresh (h : FSelSt b s j bad R X v ps w0 w) {g : Nat} (hg : w.heap.size ≤ g) : (R + 1 ≤ g ∧ g ≠ X) ∧ v.ownBlock ≠ some g := by
  have h1 := h.x.lt
  have h3 := h.hX
  refine ⟨⟨by omega, by omega⟩, fun he => ?_⟩
  have := (h.row.lt he).2.2
  omega

/-- One more part, behind the append. -/
theorem FSelSt.app (h : FSelSt b s j bad R X v ps w0 w) {w5 : World} {g cap : Nat} {p : L.Part} {nv : Value} {qs : List (L.Part × Value)}
    (hqs : qs.map (·.1) = ps) (hI : ∀ q ∈ qs, IPart (fun k => (R + 1 ≤ k ∧ k ≠ X) ∧ v.ownBlock ≠ some k) w q.2 q.1)
    (hown : w5.ownsRow (R + 1) 62 3 (.slice (some ⟨g, 0, none⟩) (ps.length + 1) cap) (ps.length + 1) ((qs.flatMap fun p => cPart p.1 p.2) ++ cPart p nv))
    (hgrow : w.grownBy w5 v.ownBlock) (hat : v.ownBlock = some g ∨ g = w.heap.size) (hx : TestsAt (fun k => (R + 1 ≤ k ∧ k ≠ X) ∧ v.ownBlock ≠ some k) w nv p.tests) :
    FSelSt b s j bad R X (.slice (some ⟨g, 0, none⟩) (ps.length + 1) cap) (ps ++ [p]) w0 (w5.setCell ⟨X, 0, none⟩ (.slice (some ⟨g, 0, none⟩) (ps.length + 1) cap)) := by
  have hv : ∀ k, v.ownBlock = some k → R + 1 ≤ k ∧ k ≠ X := fun k hk => (h.row.lt hk).1
  have hb := h.st.hb
  have hR := h.st.hR
  have hX := h.hX
  have e1 : ∀ k, k < w.heap.size → (k < R + 1 ∨ k = X) → w5.heap[k]? = w.heap[k]? := fun k h1 h2 =>
    hgrow.block k h1 (fun he => by have := hv k he.symm; omega)
  have r5 : IsRdF b s j bad w5 := (e1 b h.st.lt (by omega)).trans h.st.rdr
  have x5 : Blk X #[v] 32 w5 := (e1 X h.x.lt (Or.inr rfl)).trans h.x
  have R5 : Blk R #[.slice none 0 0] 32 w5 := (e1 R h.st.res.lt (by omega)).trans h.st.res
  have b5 : But b w0 w5 := ⟨hgrow.os.trans h.st.but.os, hgrow.tape.trans h.st.but.tape, hgrow.output.trans h.st.but.output, by have := hgrow.size; have := h.st.but.size; omega, fun k hk hne =>
    (e1 k (by have := h.st.but.size; omega) (by omega)).trans (h.st.but.block k hk hne)⟩
  have s5 : FdSt b s j bad R #[.slice none 0 0] 32 w0 w5 := ⟨r5, R5, b5, hb, hR⟩
  refine ⟨s5.far (by omega) (by omega) 0 _, H.Blk.set x5 0 _, OwnIn.keep keeps_part (w := w5) ?_ ((Kept.refl w5).set (by omega) 0 _), hX⟩
  refine OwnIn.append (I := IPart) (c := cPart) (x := p) (vx := nv) keeps_part (w := w) (v := v) hqs hown hI hgrow ?_ hx
  rcases hat with h1 | h1
  · exact Or.inl ⟨h1, hv g h1⟩
  · exact Or.inr ⟨by omega, by rw [h1]; have := h.x.lt; omega⟩
theorem FSelSt.x5 (h : FSelSt b s j bad R X v ps w0 w) {w5 : World} (hgrow : w.grownBy w5 v.ownBlock) : Blk X #[v] 32 w5 :=
  (hgrow.block X h.x.lt (fun he => by have := (h.row.lt he.symm).1; omega)).trans h.x
end

theorem infoPart : (Tryz.prog.info? 62).map (fun i => (i.zero, i.size, i.bytes)) = some (some (.agg pzero), 3, 48) := by kernel_rfl

/-- Behind the first part. -/
theorem FSelSt.start {b : Nat} {s : List UInt8} {j : Nat} {bad : Bool} {w w1 : World} {ty : List UInt8} {V : Value} {ts : List L.Test} (h : FdSt b s j bad w.heap.size #[.slice none 0 0] 32 w w1)
    (hT : TestsAt (w.heap.size + 1 ≤ ·) w1 V ts) :
    FSelSt b s j bad w.heap.size (w1.heap.size + 1) (.slice (some ⟨w1.heap.size, 0, none⟩) 1 1) [⟨0, ty, ts⟩] w
      ((w1.alloc (.cells #[.int .i64 0, .string ⟨ty.toArray⟩, V] 62)).alloc (.cells #[.slice (some ⟨w1.heap.size, 0, none⟩) 1 1] 32)) := by
  have h1 := h.res.lt
  refine ⟨(h.alloc _).alloc _, ?_, ?_, by omega⟩
  · have := Blk.new (w1.alloc (.cells #[.int .i64 0, .string ⟨ty.toArray⟩, V] 62)) #[.slice (some ⟨w1.heap.size, 0, none⟩) 1 1] 32
    have e : (w1.alloc (.cells #[.int .i64 0, .string ⟨ty.toArray⟩, V] 62)).heap.size = w1.heap.size + 1 := by simp
    rw [e] at this
    exact this
  · refine OwnIn.keep keeps_part (w := w1.alloc (.cells #[.int .i64 0, .string ⟨ty.toArray⟩, V] 62)) ?_ ((Kept.refl _).alloc _)
    exact OwnIn.one (c := cPart) (I := IPart) (x := ⟨0, ty, ts⟩) (vx := V) w1 (by omega) rfl ⟨by omega, by omega⟩ keeps_part (keeps_tests hT ⟨Nat.le_refl _, fun g hg hlt => ⟨⟨⟨hg, by omega⟩, hlt⟩, rfl⟩⟩)


/-- What reading a selector comes to: the reference leaves some faults to its caller. -/
def GotS (bad' : Bool) (o : Option (List L.Part × List UInt8)) (ps : List L.Part) (r : List UInt8) : Prop :=
  (bad' = true ∧ o = none) ∨ (bad' = false ∧ (o = some (ps, r) ∨ (o = none ∧ L.space r = r ∧ ∃ c u, r = c :: u ∧ c ≠ 44)))

def FSel (b : Nat) (s : List UInt8) (i : Nat) (o : Option (List L.Part × List UInt8)) (w : World) (e : Ending) (w' : World) : Prop :=
  ∃ (v : Value) (ps : List L.Part) (j : Nat) (bad' : Bool), e = .returned (.agg #[v]) ∧ Hid (PartsAt (w.heap.size ≤ ·) w' v ps) ∧ IsRdF b s j bad' w' ∧ But b w w' ∧ i ≤ j ∧ j ≤ s.length ∧ Hid (ps.length ≤ j - i + 1) ∧ Hid (GotS bad' o ps (s.drop j))

/-- The combinator, as the reference finds it behind the space. -/
def JoinF (s : List UInt8) (j j2 m j3 : Nat) : Prop :=
  (m = 0 ∧ j3 = j2 ∧ (L.join (s.drop j) = some none ∨ (L.join (s.drop j) = none ∧ ∃ c u, s.drop j2 = c :: u ∧ c ≠ 44))) ∨
  (0 < m ∧ m ≤ 4 ∧ L.join (s.drop j) = some (some (m, L.space (s.drop j3))) ∧ j < j3)

section
variable {s : List UInt8} {j j2 j3 : Nat}
theorem joinF_mark {c : UInt8} {m : Nat} (h2 : s.drop j2 = L.space (s.drop j)) (hj : j ≤ j2) (h : s.drop j2 = c :: s.drop j3) (h3 : j3 = j2 + 1) (hc : (c = 62 ∧ m = 2) ∨ (c = 43 ∧ m = 3) ∨ (c = 126 ∧ m = 4)) : JoinF s j j2 m j3 := by
  refine Or.inr ⟨by omega, by omega, ?_, by omega⟩
  have hsp : L.space (s.drop j) = c :: s.drop j3 := h2 ▸ h
  rcases hc with ⟨rfl, rfl⟩ | ⟨rfl, rfl⟩ | ⟨rfl, rfl⟩
  · rw [L.join_mark hsp (by decide)]; rfl
  · rw [L.join_mark hsp (by decide)]; rfl
  · rw [L.join_mark hsp (by decide)]; rfl
theorem space_space (l : List UInt8) : L.space (L.space l) = L.space l := by
  unfold L.space
  induction l with
  | nil => rfl
  | cons c r ih =>
    by_cases h : T.sp c = true
    · rw [List.dropWhile_cons_of_pos h]; exact ih
    · rw [List.dropWhile_cons_of_neg h, List.dropWhile_cons_of_neg h]
theorem joinF_end (h2 : s.drop j2 = L.space (s.drop j)) (h : s.drop j2 = []) : JoinF s j j2 0 j2 :=
  Or.inl ⟨rfl, rfl, Or.inl (L.join_nil (h2 ▸ h))⟩
theorem joinF_comma {u : List UInt8} (h2 : s.drop j2 = L.space (s.drop j)) (h : s.drop j2 = 44 :: u) : JoinF s j j2 0 j2 :=
  Or.inl ⟨rfl, rfl, Or.inl (L.join_comma (h2 ▸ h))⟩
theorem jx_no {c : UInt8} (h1 : c ≠ 62) (h2 : c ≠ 43) (h3 : c ≠ 126) : ¬ 0 < L.jx c := by
  unfold L.jx
  by_cases h0 : c = 32
  · rw [if_pos h0]; omega
  · rw [if_neg h0, if_neg h1, if_neg h2, if_neg h3]; omega
theorem joinF_one {c : UInt8} {u : List UInt8} (h2 : s.drop j2 = L.space (s.drop j)) (hl : j2 ≤ s.length) (h : s.drop j2 = c :: u) (hc : ¬ 0 < L.jx c) (h44 : c ≠ 44) (hj : j < j2) : JoinF s j j2 1 j2 := by
  refine Or.inr ⟨by omega, by omega, ?_, hj⟩
  have hsp : L.space (s.drop j) = c :: u := h2 ▸ h
  rw [L.join_other hsp hc h44, if_pos, h2, space_space]
  rw [← h2, List.length_drop, List.length_drop]
  omega
theorem joinF_none {c : UInt8} {u : List UInt8} (h2 : s.drop j2 = L.space (s.drop j)) (hl : j2 ≤ s.length) (h : s.drop j2 = c :: u) (hc : ¬ 0 < L.jx c) (h44 : c ≠ 44) (hj : j = j2) : JoinF s j j2 0 j2 := by
  refine Or.inl ⟨rfl, rfl, Or.inr ⟨?_, c, u, h, h44⟩⟩
  have hsp : L.space (s.drop j) = c :: u := h2 ▸ h
  rw [L.join_other hsp hc h44, if_neg]
  rw [← h2, hj]
  omega
end

def FSelRel (b : Nat) (s : List UInt8) (i R X : Nat) (full : Option (List L.Part × List UInt8)) (w wr : World) (j : Nat) (bad : Bool) : Prop :=
  ∃ v ps, FSelSt b s j bad R X v ps w wr ∧ ps.length ≤ j - i + 1 ∧ L.SInv s j bad ps full

end F
end Go.Proofs.YtnmcgmbhkmfiaaaGreatDoor
