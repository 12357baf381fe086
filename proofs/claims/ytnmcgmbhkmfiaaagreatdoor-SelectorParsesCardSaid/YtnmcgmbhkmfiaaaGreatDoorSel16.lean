/- The reader of selectors: what a selector is made of. -/
import Derived.Test.YtnmcgmbhkmfiaaaGreatDoorOwn
import Derived.Test.YtnmcgmbhkmfiaaaGreatDoorSel15
set_option linter.unusedVariables false
set_option linter.unusedSimpArgs false
namespace Go.Proofs.YtnmcgmbhkmfiaaaGreatDoor
namespace L

/-- What has been read of the parts, and what is to come. -/
def SInv (s : List UInt8) (j : Nat) (bad : Bool) (done : List Part) (full : Option (List Part × List UInt8)) : Prop :=
  (bad = true ∧ full = none) ∨ (bad = false ∧ ∃ n, s.length - j < n ∧ full = (parts n (s.drop j)).map (fun q => (done ++ q.1, q.2)))

theorem SInv.start {s : List UInt8} {i j : Nat} {bad : Bool} {ty : List UInt8} {ts : List Test} (h : K.Got bad (outer (s.drop i)) ((ty, ts), s.drop j)) : SInv s j bad [⟨0, ty, ts⟩] (selector (s.drop i)) := by
  unfold selector
  rcases h with ⟨rfl, h⟩ | ⟨rfl, h⟩
  · exact Or.inl ⟨rfl, by rw [h]⟩
  · rw [h]
    refine Or.inr ⟨rfl, (s.drop j).length + 1, by rw [List.length_drop]; omega, ?_⟩
    dsimp only
    cases parts ((s.drop j).length + 1) (s.drop j) <;> simp

theorem SInv.more {s : List UInt8} {j k j' m : Nat} {bad' : Bool} {done : List Part} {ty : List UInt8} {ts : List Test} {full : Option (List Part × List UInt8)}
    (h : SInv s j false done full) (hj : join (s.drop j) = some (some (m, s.drop k))) (hg : K.Got bad' (outer (s.drop k)) ((ty, ts), s.drop j')) (hlt : j < j') (hl : j' ≤ s.length) : SInv s j' bad' (done ++ [⟨m, ty, ts⟩]) full := by
  rcases h with ⟨h, _⟩ | ⟨_, n, hn, hf⟩
  · cases h
  · obtain ⟨q, rfl⟩ : ∃ q, n = q + 1 := ⟨n - 1, by omega⟩
    unfold parts at hf
    rw [hj] at hf
    dsimp only at hf
    rcases hg with ⟨rfl, h⟩ | ⟨rfl, h⟩
    · exact Or.inl ⟨rfl, by rw [hf, h]; rfl⟩
    · rw [h] at hf
      dsimp only at hf
      refine Or.inr ⟨rfl, q, by omega, ?_⟩
      rw [hf]
      cases parts q (s.drop j') with
      | none => rfl
      | some q => simp

theorem SInv.last {s : List UInt8} {j : Nat} {done : List Part} {full : Option (List Part × List UInt8)} (h : SInv s j false done full) (hj : join (s.drop j) = some none) : full = some (done, space (s.drop j)) := by
  rcases h with ⟨h, _⟩ | ⟨_, n, hn, hf⟩
  · cases h
  · obtain ⟨q, rfl⟩ : ∃ q, n = q + 1 := ⟨n - 1, by omega⟩
    unfold parts at hf
    rw [hj] at hf
    simpa using hf

theorem SInv.fall {s : List UInt8} {j : Nat} {done : List Part} {full : Option (List Part × List UInt8)} (h : SInv s j false done full) (hj : join (s.drop j) = none) : full = none := by
  rcases h with ⟨h, _⟩ | ⟨_, n, hn, hf⟩
  · cases h
  · obtain ⟨q, rfl⟩ : ∃ q, n = q + 1 := ⟨n - 1, by omega⟩
    unfold parts at hf
    rw [hj] at hf
    simpa using hf

/-- The place of a combinator in the list. -/
def jx (c : UInt8) : Int := if c = 32 then 0 else if c = 62 then 1 else if c = 43 then 2 else if c = 126 then 3 else -1

theorem join_nil {r : List UInt8} (h : space r = []) : join r = some none := by unfold join; rw [h]
theorem join_comma {r u : List UInt8} (h : space r = 44 :: u) : join r = some none := by unfold join; rw [h]; rfl
theorem join_mark {r u : List UInt8} {c : UInt8} (h : space r = c :: u) (hc : 0 < jx c) : join r = some (some ((jx c + 1).toNat, space u)) := by
  unfold join; rw [h]
  unfold jx at hc ⊢
  by_cases h1 : c = 32
  · rw [if_pos h1] at hc; omega
  · rw [if_neg h1] at hc ⊢
    by_cases h2 : c = 62
    · subst h2; rfl
    · rw [if_neg h2] at hc ⊢
      by_cases h3 : c = 43
      · subst h3; rfl
      · rw [if_neg h3] at hc ⊢
        by_cases h4 : c = 126
        · subst h4; rfl
        · rw [if_neg h4] at hc; omega
theorem join_other {r u : List UInt8} {c : UInt8} (h : space r = c :: u) (hc : ¬ 0 < jx c) (h44 : c ≠ 44) : join r = if (space r).length < r.length then some (some (1, space r)) else none := by
  have e1 : (c == 44) = false := by simpa using h44
  have e2 : (c == 62) = false := by
    rw [beq_eq_false_iff_ne]; rintro rfl; exact hc (by decide)
  have e3 : (c == 43) = false := by
    rw [beq_eq_false_iff_ne]; rintro rfl; exact hc (by decide)
  have e4 : (c == 126) = false := by
    rw [beq_eq_false_iff_ne]; rintro rfl; exact hc (by decide)
  unfold join
  rw [h]
  simp [e1, e2, e3, e4]
end L
open Go.RowKit
namespace K
open H

set_option maxRecDepth 1000000 in
theorem indexJoin (c : UInt8) : Lib.indexByte (⟨#[32, 62, 43, 126]⟩ : ByteArray).data.toList c = L.jx c := by
  have h : ∀ n : Fin 256, Lib.indexByte (⟨#[32, 62, 43, 126]⟩ : ByteArray).data.toList (UInt8.ofNat n.val) = L.jx (UInt8.ofNat n.val) := by decide
  have := h ⟨c.toNat, c.toNat_lt⟩
  simpa using this

theorem pseudo_inner (b : Nat) (s : List UInt8) (hs : s.length ≤ 1000000) (ht : top ≤ b) (i : Nat) (w : World) (hi : i ≤ s.length) (hR : IsRdr b s i false w) (hE : Env w) :
    Calls Tryz.prog 48 #[.pointer (some ⟨b, 0, none⟩), .bool true] w (TestPost b s i true (L.pseudo (npOf true) (s.drop i)) w) :=
  pseudo b s i true w hs hi hR hE ht (fun h => (by cases h))
theorem part_inner (b : Nat) (s : List UInt8) (hs : s.length ≤ 1000000) (ht : top ≤ b) (i : Nat) (w : World) (hi : i ≤ s.length) (hR : IsRdr b s i false w) (hE : Env w) :
    Calls Tryz.prog 29 #[.pointer (some ⟨b, 0, none⟩), .bool true] w (PartPost b s i true (L.part none (s.drop i)) w) :=
  part_of b s i true w hs hi hR hE ht (pseudo_inner b s hs ht)
theorem pseudo_outer (b : Nat) (s : List UInt8) (hs : s.length ≤ 1000000) (ht : top ≤ b) (i : Nat) (w : World) (hi : i ≤ s.length) (hR : IsRdr b s i false w) (hE : Env w) :
    Calls Tryz.prog 48 #[.pointer (some ⟨b, 0, none⟩), .bool false] w (TestPost b s i false (L.pseudo (npOf false) (s.drop i)) w) :=
  pseudo b s i false w hs hi hR hE ht (fun _ => part_inner b s hs ht)
theorem part_outer (b : Nat) (s : List UInt8) (hs : s.length ≤ 1000000) (ht : top ≤ b) (i : Nat) (w : World) (hi : i ≤ s.length) (hR : IsRdr b s i false w) (hE : Env w) :
    Calls Tryz.prog 29 #[.pointer (some ⟨b, 0, none⟩), .bool false] w (PartPost b s i false (L.outer (s.drop i)) w) :=
  part_of b s i false w hs hi hR hE ht (pseudo_outer b s hs ht)

def SelPost (b : Nat) (s : List UInt8) (i : Nat) (o : Option (List L.Part × List UInt8)) (w : World) (e : Ending) (w' : World) : Prop :=
  ∃ (v : Value) (ps : List L.Part) (j : Nat) (bad' : Bool), e = .returned (.agg #[v]) ∧ Hid (PartsAt (w.heap.size ≤ ·) w' v ps) ∧ IsRdr b s j bad' w' ∧ But b w w' ∧ i ≤ j ∧ j ≤ s.length ∧ Hid (ps.length ≤ j - i + 1) ∧ Hid (Got bad' o (ps, s.drop j))

/-- The reader, the block of the result, and the parts so far (X holds their slice). -/
structure SelSt (b : Nat) (s : List UInt8) (j : Nat) (bad : Bool) (R X : Nat) (v : Value) (ps : List L.Part) (w0 w : World) : Prop where
  st : RdSt b s j bad R #[.slice none 0 0] 39 w0 w
  x : Blk X #[v] 39 w
  row : OwnIn cPart IPart (fun k => R + 1 ≤ k ∧ k ≠ X) (R + 1) 57 3 w v ps
  hX : R < X

section
variable {b : Nat} {s : List UInt8} {j j' : Nat} {bad bad' : Bool} {R X : Nat} {v : Value} {ps : List L.Part} {w0 w w' : World}
theorem SelSt.step (h : SelSt b s j bad R X v ps w0 w) (hr : IsRdr b s j' bad' w') (hB : But b w w') : SelSt b s j' bad' R X v ps w0 w' :=
  have h1 := h.st.hb
  have h2 := h.st.hR
  have h3 := h.hX
  ⟨h.st.step hr hB, h.x.but hB (by omega), h.row.keep keeps_part ⟨hB.size, fun g hg hlt => ⟨hg, hB.block g hlt (by omega)⟩⟩, h.hX⟩
theorem SelSt.drewN (h : SelSt b s j bad R X v ps w0 w) (n : Nat) : SelSt b s j bad R X v ps w0 (w.drewN n) :=
  ⟨h.st.drewN n, h.x, h.row.keep keeps_part ⟨Nat.le_refl _, fun g hg _ => ⟨hg, rfl⟩⟩, h.hX⟩
theorem SelSt.alloc (h : SelSt b s j bad R X v ps w0 w) (o : Obj) : SelSt b s j bad R X v ps w0 (w.alloc o) :=
  ⟨h.st.alloc o, h.x.alloc o, h.row.keep keeps_part ((Kept.refl w).alloc o), h.hX⟩
theorem SelSt.fail_ (h : SelSt b s j bad R X v ps w0 w) {B : Bool} : SelSt b s j B R X v ps w0 (w.setCell ⟨b, 2, none⟩ (.bool B)) :=
  have h1 := h.st.hb
  have h2 := h.st.hR
  have h3 := h.hX
  ⟨⟨block_set (o := 2) h.st.rdr, h.st.res.far (by omega) 2 _, h.st.but.trans (But.set _ _ _), h1, h2⟩, h.x.far (by omega) 2 _, h.row.keep keeps_part ((Kept.refl w).set (by omega) 2 _), h3⟩
theorem SelSt.place (h : SelSt b s j bad R X v ps w0 w) {z : Int} (k : Nat) (hz : z = (k : Int)) : SelSt b s k bad R X v ps w0 (w.setCell ⟨b, 1, none⟩ (.int .i64 z)) :=
  have h1 := h.st.hb
  have h2 := h.st.hR
  have h3 := h.hX
  ⟨⟨h.st.rdr.place k hz, h.st.res.far (by omega) 1 _, h.st.but.trans (But.set _ _ _), h1, h2⟩, h.x.far (by omega) 1 _, h.row.keep keeps_part ((Kept.refl w).set (by omega) 1 _), h3⟩
/-- The parts into the result. -/
theorem SelSt.give (h : SelSt b s j bad R X v ps w0 w) : IsRdr b s j bad (w.setCell ⟨R, 0, none⟩ v) ∧ But b w0 (w.setCell ⟨R, 0, none⟩ v) ∧ PartsAt (w0.heap.size ≤ ·) (w.setCell ⟨R, 0, none⟩ v) v ps := by
  have h1 := h.st.set 0 v
  have h2 := h.st.hR
  refine ⟨h1.rdr, h1.but, ?_⟩
  have k1 : Kept (fun k => R + 1 ≤ k ∧ k ≠ X) (fun k => R + 1 ≤ k ∧ k ≠ X) w (w.setCell ⟨R, 0, none⟩ v) := (Kept.refl w).set (by omega) 0 v
  exact ListAt.keep keeps_part (OwnIn.list keeps_part h.row) (k1.trans (Kept.wide (fun g hg => (by show w0.heap.size ≤ g; omega))))
theorem SelSt.fresh (h : SelSt b s j bad R X v ps w0 w) {g : Nat} (hg : w.heap.size ≤ g) : (R + 1 ≤ g ∧ g ≠ X) ∧ v.ownBlock ≠ some g := by
  have h1 := h.x.lt
  have h3 := h.hX
  refine ⟨⟨by omega, by omega⟩, fun he => ?_⟩
  have := (h.row.lt he).2.2
  omega

/-- One more part, behind the append. -/
theorem SelSt.app (h : SelSt b s j bad R X v ps w0 w) {w5 : World} {g cap : Nat} {p : L.Part} {nv : Value} {qs : List (L.Part × Value)}
    (hqs : qs.map (·.1) = ps) (hI : ∀ q ∈ qs, IPart (fun k => (R + 1 ≤ k ∧ k ≠ X) ∧ v.ownBlock ≠ some k) w q.2 q.1)
    (hown : w5.ownsRow (R + 1) 57 3 (.slice (some ⟨g, 0, none⟩) (ps.length + 1) cap) (ps.length + 1) ((qs.flatMap fun p => cPart p.1 p.2) ++ cPart p nv))
    (hgrow : w.grownBy w5 v.ownBlock) (hat : v.ownBlock = some g ∨ g = w.heap.size) (hx : TestsAt (fun k => (R + 1 ≤ k ∧ k ≠ X) ∧ v.ownBlock ≠ some k) w nv p.tests) :
    SelSt b s j bad R X (.slice (some ⟨g, 0, none⟩) (ps.length + 1) cap) (ps ++ [p]) w0 (w5.setCell ⟨X, 0, none⟩ (.slice (some ⟨g, 0, none⟩) (ps.length + 1) cap)) := by
  have hv : ∀ k, v.ownBlock = some k → R + 1 ≤ k ∧ k ≠ X := fun k hk => (h.row.lt hk).1
  have hb := h.st.hb
  have hR := h.st.hR
  have hX := h.hX
  have e1 : ∀ k, k < w.heap.size → (k < R + 1 ∨ k = X) → w5.heap[k]? = w.heap[k]? := fun k h1 h2 =>
    hgrow.block k h1 (fun he => by have := hv k he.symm; omega)
  have r5 : IsRdr b s j bad w5 := (e1 b h.st.lt (by omega)).trans h.st.rdr
  have x5 : Blk X #[v] 39 w5 := (e1 X h.x.lt (Or.inr rfl)).trans h.x
  have R5 : Blk R #[.slice none 0 0] 39 w5 := (e1 R h.st.res.lt (by omega)).trans h.st.res
  have b5 : But b w0 w5 := ⟨hgrow.os.trans h.st.but.os, hgrow.tape.trans h.st.but.tape, hgrow.output.trans h.st.but.output, by have := hgrow.size; have := h.st.but.size; omega, fun k hk hne =>
    (e1 k (by have := h.st.but.size; omega) (by omega)).trans (h.st.but.block k hk hne)⟩
  have s5 : RdSt b s j bad R #[.slice none 0 0] 39 w0 w5 := ⟨r5, R5, b5, hb, hR⟩
  refine ⟨s5.far (by omega) (by omega) 0 _, H.Blk.set x5 0 _, OwnIn.keep keeps_part (w := w5) ?_ ((Kept.refl w5).set (by omega) 0 _), hX⟩
  refine OwnIn.append (I := IPart) (c := cPart) (x := p) (vx := nv) keeps_part (w := w) (v := v) hqs hown hI hgrow ?_ hx
  rcases hat with h1 | h1
  · exact Or.inl ⟨h1, hv g h1⟩
  · exact Or.inr ⟨by omega, by rw [h1]; have := h.x.lt; omega⟩
theorem SelSt.x5 (h : SelSt b s j bad R X v ps w0 w) {w5 : World} (hgrow : w.grownBy w5 v.ownBlock) : Blk X #[v] 39 w5 :=
  (hgrow.block X h.x.lt (fun he => by have := (h.row.lt he.symm).1; omega)).trans h.x
end

end K
end Go.Proofs.YtnmcgmbhkmfiaaaGreatDoor
