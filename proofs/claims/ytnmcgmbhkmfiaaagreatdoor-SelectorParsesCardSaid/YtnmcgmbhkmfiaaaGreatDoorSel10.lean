/- The reader of selectors: attribute. -/
import Derived.Test.YtnmcgmbhkmfiaaaGreatDoorSel9
import Derived.Test.YtnmcgmbhkmfiaaaGreatDoorOwn
import Derived.Test.YtnmcgmbhkmfiaaaGreatDoorCaseLaw
set_option linter.unusedVariables false
set_option linter.unusedSimpArgs false
namespace Go.Proofs.YtnmcgmbhkmfiaaaGreatDoor
open Go.RowKit
namespace K
open H

section
variable {b : Nat} {w w' : World}
theorem IsRdr.but_far {s : List UInt8} {i : Nat} {bad : Bool} (h : IsRdr b s i bad w) {k : Nat} (hne : b ≠ k) (o : Nat) (v : Value) : IsRdr b s i bad (w.setCell ⟨k, o, none⟩ v) := (Below.heap_setCell w ⟨k, o, none⟩ v b hne).trans h
theorem IsRdr.alloc {s : List UInt8} {i : Nat} {bad : Bool} (h : IsRdr b s i bad w) (o : Obj) : IsRdr b s i bad (w.alloc o) := (Below.heap_alloc w o b (lt_of_block h)).trans h
end

def tcells (t : L.Tst) (nv : Value) : Array Value := #[.int .i64 t.kind, .string ⟨t.name.toArray⟩, .string ⟨t.value.toArray⟩, .int .i64 t.a, .int .i64 t.b, nv]
def tval (t : L.Tst) (nv : Value) : Value := .agg (tcells t nv)
def tzero : Array Value := #[.int .i64 0, .string ⟨#[]⟩, .string ⟨#[]⟩, .int .i64 0, .int .i64 0, .slice none 0 0]

def TstPost (b : Nat) (s : List UInt8) (i : Nat) (o : Option (L.Tst × List UInt8)) (w : World) (e : Ending) (w' : World) : Prop :=
  ∃ (t : L.Tst) (j : Nat) (bad' : Bool), e = .returned (tval t (.slice none 0 0)) ∧ IsRdr b s j bad' w' ∧ But b w w' ∧ i ≤ j ∧ j ≤ s.length ∧ Hid (Got bad' o (t, s.drop j))

/-- The reader, the block of the result, and all else as it was. -/
structure RdSt (b : Nat) (s : List UInt8) (j : Nat) (bad : Bool) (R : Nat) (r : Array Value) (T : TypeId) (w0 w : World) : Prop where
  rdr : IsRdr b s j bad w
  res : Blk R r T w
  but : But b w0 w
  hb : b < w0.heap.size
  hR : w0.heap.size ≤ R

section
variable {b : Nat} {s : List UInt8} {j j' : Nat} {bad bad' : Bool} {R : Nat} {r : Array Value} {T : TypeId} {w0 w w' : World}
theorem RdSt.step (h : RdSt b s j bad R r T w0 w) (hr : IsRdr b s j' bad' w') (hB : But b w w') : RdSt b s j' bad' R r T w0 w' :=
  ⟨hr, h.res.but hB (by have := h.hb; have := h.hR; omega), h.but.trans hB, h.hb, h.hR⟩
theorem RdSt.below (h : RdSt b s j bad R r T w0 w) (hB : Below w.heap.size w w') : RdSt b s j bad R r T w0 w' := h.step (h.rdr.below hB) (But.of hB)
theorem RdSt.alloc (h : RdSt b s j bad R r T w0 w) (o : Obj) : RdSt b s j bad R r T w0 (w.alloc o) := ⟨h.rdr.alloc o, h.res.alloc o, h.but.alloc o, h.hb, h.hR⟩
theorem RdSt.drewN (h : RdSt b s j bad R r T w0 w) (n : Nat) : RdSt b s j bad R r T w0 (w.drewN n) := ⟨h.rdr.drewN n, h.res, h.but.drewN n, h.hb, h.hR⟩
theorem RdSt.far (h : RdSt b s j bad R r T w0 w) {k : Nat} (hk : w0.heap.size ≤ k) (hkR : R ≠ k) (o : Nat) (v : Value) : RdSt b s j bad R r T w0 (w.setCell ⟨k, o, none⟩ v) :=
  ⟨h.rdr.but_far (by have := h.hb; omega) o v, h.res.far hkR o v, h.but.late hk o v, h.hb, h.hR⟩
theorem RdSt.set (h : RdSt b s j bad R r T w0 w) (o : Nat) (v : Value) : RdSt b s j bad R (r.setIfInBounds o v) T w0 (w.setCell ⟨R, o, none⟩ v) :=
  ⟨h.rdr.but_far (by have := h.hb; have := h.hR; omega) o v, h.res.set o v, h.but.late h.hR o v, h.hb, h.hR⟩
theorem RdSt.new (hr : IsRdr b s j bad w) (cs : Array Value) (T : TypeId) : RdSt b s j bad w.heap.size cs T w (w.alloc (.cells cs T)) :=
  ⟨hr.alloc _, Blk.new w cs T, (But.refl _ _).alloc _, lt_of_block hr, Nat.le_refl _⟩
theorem RdSt.six (h : RdSt b s j bad R r T w0 w) (v0 v1 v2 v3 v4 v5 : Value) :
    IsRdr b s j bad ((((((w.setCell ⟨R, 0, none⟩ v0).setCell ⟨R, 1, none⟩ v1).setCell ⟨R, 2, none⟩ v2).setCell ⟨R, 3, none⟩ v3).setCell ⟨R, 4, none⟩ v4).setCell ⟨R, 5, none⟩ v5) ∧
    But b w0 ((((((w.setCell ⟨R, 0, none⟩ v0).setCell ⟨R, 1, none⟩ v1).setCell ⟨R, 2, none⟩ v2).setCell ⟨R, 3, none⟩ v3).setCell ⟨R, 4, none⟩ v4).setCell ⟨R, 5, none⟩ v5) :=
  have h := ((((((h.set 0 v0).set 1 v1).set 2 v2).set 3 v3).set 4 v4).set 5 v5)
  ⟨h.rdr, h.but⟩
theorem RdSt.lt (h : RdSt b s j bad R r T w0 w) : b < w.heap.size := lt_of_block h.rdr
end


theorem LowerS (l : List UInt8) (w : World) (h : l.length ≤ 1000000) :
    Calls Tryz.prog 45 #[.string ⟨l.toArray⟩] w fun e w' => e = .returned (.string ⟨(L.lower l).toArray⟩) ∧ Below w.heap.size w w' := by
  have := T.Lower ⟨l.toArray⟩ w (by rw [bytes_size]; omega)
  rw [bytes_toList] at this
  exact this

theorem attr_no {r : List UInt8} (h : L.ident (L.space r) = none) : L.attr r = none := by unfold L.attr; rw [h]
theorem attr_yes {r n u : List UInt8} (h : L.ident (L.space r) = some (n, u)) : L.attr r = L.attrEnd n u := by unfold L.attr; rw [h]
theorem attrEnd_no {n r : List UInt8} (h : L.op (L.space r) = none) : L.attrEnd n r = (match L.need [93] (L.space r) with | none => none | some u => some (⟨3, L.lower n, [], 0, 0⟩, u)) := by unfold L.attrEnd; rw [h]; rfl
theorem attrEnd_yes {n r u : List UInt8} {k : Nat} (h : L.op (L.space r) = some (k, u)) : L.attrEnd n r = L.attrRest n k u := by unfold L.attrEnd; rw [h]

/-- The value and the bracket behind it. -/
theorem attrRest_got {n u v x y z : List UInt8} {k : Nat} {b1 b2 : Bool} (h1 : Got b1 (L.value (L.space u)) (v, x)) (hz : y = L.space x) (h2 : (b1 = true → b2 = true) ∧ (b1 = false → Got b2 (L.need [93] y) z)) :
    Got b2 (L.attrRest n k u) (⟨k, L.lower n, v, 0, 0⟩, z) := by
  unfold L.attrRest
  rcases h1 with ⟨rfl, h1⟩ | ⟨rfl, h1⟩
  · rw [h2.1 rfl, h1]; exact Got.no rfl
  · rw [h1]
    subst hz
    rcases h2.2 rfl with ⟨rfl, h3⟩ | ⟨rfl, h3⟩
    · exact Got.no (by show (match L.need [93] (L.space x) with | none => none | some y => _) = _; rw [h3])
    · exact Got.yes (by show (match L.need [93] (L.space x) with | none => none | some y => _) = _; rw [h3])

set_option maxHeartbeats 4000000 in
theorem attrib (b : Nat) (s : List UInt8) (i : Nat) (w : World) (hs : s.length ≤ 1000000) (hi : i ≤ s.length) (hR : IsRdr b s i false w) :
    Calls Tryz.prog 47 #[.pointer (some ⟨b, 0, none⟩)] w (TstPost b s i (L.attr (s.drop i)) w) := by
  have HR := Lib.hid hR
  have hlb := lt_of_block hR
  clear hR
  go_enter Tryz.func47, Tryz.ntmps47
  go_wp2_with fail
  have st0 := RdSt.new HR.out tzero 77
  refine (space_any b s i false _ hs hi st0.rdr).mono ?_
  rintro e w1 ⟨j1, rfl, hr1, hb1, h1, h1', HJ1⟩
  have ST1 := Lib.hid (st0.step hr1 hb1)
  have z1 := hb1.size
  clear st0 hr1 hb1
  go_wp2_with fail
  refine (name_any b s j1 _ hs h1' ST1.out.rdr).mono ?_
  rintro e w2 ⟨t, j2, bad2, rfl, hr2, hb2, h2, h2', ht, HN⟩
  have ST2 := Lib.hid (ST1.out.step hr2 hb2)
  have z2 := hb2.size
  clear hr2 hb2
  go_wp2_with fail
  refine (LowerS t _ (by omega)).mono ?_
  rintro e w3 ⟨rfl, b3⟩
  have ST3 := Lib.hid (ST2.out.below b3)
  have z3 := b3.size
  clear b3
  go_wp2_with fail
  have hA : w.heap.size < w3.heap.size := by have := ST1.out.res.lt; omega
  have hbA : b ≠ w3.heap.size := by omega
  refine (space_any b s j2 bad2 _ hs h2' (ST3.out.alloc _).rdr).mono ?_
  rintro e w4 ⟨j3, rfl, hr4, hb4, h3, h3', HJ3⟩
  have ST4 := Lib.hid ((ST3.out.alloc _).step hr4 hb4)
  have X4 : Hid (Blk w3.heap.size (tcells ⟨3, L.lower t, [], 0, 0⟩ (.slice none 0 0)) 77 w4) := Lib.hid ((Blk.new w3 _ _).but hb4 hbA.symm)
  clear hr4 hb4 ST1 ST2 ST3 z1 z2 z3
  generalize w3.heap.size = A at *
  generalize hRR : w.heap.size = R at *
  go_wp2_with fail
  refine (take_any b s [61] j3 bad2 _ hs (by decide) h3' ST4.out.rdr).mono ?_
  rintro e w5 (⟨rfl, hr5, hb5, HT⟩ | ⟨rfl, hr5, hb5, HT⟩)
  case' inl =>
    have st5 := ST4.out.step hr5 hb5
    have x5 := X4.out.but hb5 hbA.symm
    have hjk : j3 + 1 ≤ s.length := by
      have := prefix_len HT.out.2
      rw [List.length_drop] at this; simp at this; omega
    obtain rfl : bad2 = false := HT.out.1
    have HO : Hid (L.op (s.drop j3) = some (4, s.drop (j3 + 1))) := Lib.hid (by unfold L.op; rw [if_pos HT.out.2, List.drop_drop])
    obtain ⟨hcx, hfx⟩ := cells_of x5
    unfold tcells at hcx hfx
    have hlx := x5.lt
    have ST := Lib.hid (st5.far (k := A) (by omega) (by omega) 0 (.int .i64 4))
    have X : Hid (Blk A (tcells ⟨4, L.lower t, [], 0, 0⟩ (.slice none 0 0)) 77 _) := Lib.hid (x5.set 0 (.int .i64 4))
    clear hr5 hb5 st5 x5 HT ST4 X4
    go_wp2_with fail
    clear hcx hfx hlx
    generalize (w5.setCell ⟨A, 0, none⟩ (.int .i64 4)) = W at *
    generalize 4 = KK at HO X
    have hjj : j3 ≤ j3 + 1 := by omega
    generalize j3 + 1 = J at HO ST hjk hjj ⊢
  case' inr =>
    have ST5 := Lib.hid (ST4.out.step hr5 hb5)
    have X5 := Lib.hid (X4.out.but hb5 hbA.symm)
    clear hr5 hb5 ST4 X4
    go_wp2_with fail
    refine (take_any b s [126, 61] j3 bad2 _ hs (by decide) h3' ST5.out.rdr).mono ?_
    rintro e w6 (⟨rfl, hr5, hb5, HT2⟩ | ⟨rfl, hr5, hb5, HT2⟩)
    case' inl =>
      have g1 : ([61] : List UInt8).isPrefixOf (s.drop j3) = false := by
        rcases HT.out with h | h
        · rw [HT2.out.1] at h; cases h
        · exact h
      have st5 := ST5.out.step hr5 hb5
      have x5 := X5.out.but hb5 hbA.symm
      have hjk : j3 + 2 ≤ s.length := by
        have := prefix_len HT2.out.2
        rw [List.length_drop] at this; simp at this; omega
      obtain rfl : bad2 = false := HT2.out.1
      have HO : Hid (L.op (s.drop j3) = some (5, s.drop (j3 + 2))) := Lib.hid (by unfold L.op; rw [if_neg (by rw [g1]; simp)]; rw [if_pos HT2.out.2, List.drop_drop])
      obtain ⟨hcx, hfx⟩ := cells_of x5
      unfold tcells at hcx hfx
      have hlx := x5.lt
      have ST := Lib.hid (st5.far (k := A) (by omega) (by omega) 0 (.int .i64 5))
      have X : Hid (Blk A (tcells ⟨5, L.lower t, [], 0, 0⟩ (.slice none 0 0)) 77 _) := Lib.hid (x5.set 0 (.int .i64 5))
      clear hr5 hb5 st5 x5 HT2 ST5 X5
      go_wp2_with fail
      clear hcx hfx hlx
      generalize (w6.setCell ⟨A, 0, none⟩ (.int .i64 5)) = W at *
      generalize 5 = KK at HO X
      have hjj : j3 ≤ j3 + 2 := by omega
      generalize j3 + 2 = J at HO ST hjk hjj ⊢
    case' inr =>
      have ST6 := Lib.hid (ST5.out.step hr5 hb5)
      have X6 := Lib.hid (X5.out.but hb5 hbA.symm)
      clear hr5 hb5 ST5 X5
      go_wp2_with fail
      refine (take_any b s [94, 61] j3 bad2 _ hs (by decide) h3' ST6.out.rdr).mono ?_
      rintro e w7 (⟨rfl, hr5, hb5, HT3⟩ | ⟨rfl, hr5, hb5, HT3⟩)
      case' inl =>
        have g1 : ([61] : List UInt8).isPrefixOf (s.drop j3) = false := by
          rcases HT.out with h | h
          · rw [HT3.out.1] at h; cases h
          · exact h
        have g2 : ([126, 61] : List UInt8).isPrefixOf (s.drop j3) = false := by
          rcases HT2.out with h | h
          · rw [HT3.out.1] at h; cases h
          · exact h
        have st5 := ST6.out.step hr5 hb5
        have x5 := X6.out.but hb5 hbA.symm
        have hjk : j3 + 2 ≤ s.length := by
          have := prefix_len HT3.out.2
          rw [List.length_drop] at this; simp at this; omega
        obtain rfl : bad2 = false := HT3.out.1
        have HO : Hid (L.op (s.drop j3) = some (6, s.drop (j3 + 2))) := Lib.hid (by unfold L.op; rw [if_neg (by rw [g1]; simp)]; rw [if_neg (by rw [g2]; simp)]; rw [if_pos HT3.out.2, List.drop_drop])
        obtain ⟨hcx, hfx⟩ := cells_of x5
        unfold tcells at hcx hfx
        have hlx := x5.lt
        have ST := Lib.hid (st5.far (k := A) (by omega) (by omega) 0 (.int .i64 6))
        have X : Hid (Blk A (tcells ⟨6, L.lower t, [], 0, 0⟩ (.slice none 0 0)) 77 _) := Lib.hid (x5.set 0 (.int .i64 6))
        clear hr5 hb5 st5 x5 HT3 ST6 X6
        go_wp2_with fail
        clear hcx hfx hlx
        generalize (w7.setCell ⟨A, 0, none⟩ (.int .i64 6)) = W at *
        generalize 6 = KK at HO X
        have hjj : j3 ≤ j3 + 2 := by omega
        generalize j3 + 2 = J at HO ST hjk hjj ⊢
      case inr =>
        have ST7 := Lib.hid (ST6.out.step hr5 hb5)
        have X7 := Lib.hid (X6.out.but hb5 hbA.symm)
        clear hr5 hb5 ST6 X6
        go_wp2_with fail
        refine (need_any b s [93] j3 bad2 _ hs (by decide) h3' ST7.out.rdr).mono ?_
        rintro e w8 ⟨j4, bad4, rfl, hr8, hb8, h4, h4', HD⟩
        have st8 := ST7.out.step hr8 hb8
        have x8 := X7.out.but hb8 hbA.symm
        obtain ⟨hcx, hfx⟩ := cells_of x8
        obtain ⟨hcr, hfr⟩ := cells_of st8.res
        unfold tcells at hcx hfx
        unfold tzero at hcr hfr
        have hlr := st8.res.lt
        have ST8 := Lib.hid st8
        clear hr8 hb8 st8 x8 ST7 X7
        have HG : Hid (Got bad4 (L.attr (s.drop i)) (⟨3, L.lower t, [], 0, 0⟩, s.drop j4)) := Lib.hid (by
          rcases HN.out with ⟨rfl, h⟩ | ⟨rfl, h⟩
          · rw [HD.out.1 rfl]; exact Got.no (attr_no (HJ1.out ▸ h))
          · have hno : L.op (L.space (s.drop j2)) = none := by
              rw [← HJ3.out]
              have f : ∀ {p : Bool}, (false = true ∨ p = false) → p = false := fun h => h.elim (fun h => (by cases h)) id
              unfold L.op
              rw [if_neg (by rw [f HT.out]; simp), if_neg (by rw [f HT2.out]; simp), if_neg (by rw [f HT3.out]; simp)]
            rw [attr_yes (HJ1.out ▸ h), attrEnd_no hno, ← HJ3.out]
            rcases HD.out.2 rfl with ⟨rfl, h3⟩ | ⟨rfl, h3⟩
            · exact Got.no (by rw [h3])
            · exact Got.yes (by rw [h3]))
        clear HD HN HJ1 HJ3 HT HT2 HT3
        go_wp2_with fail
        refine bodyPost_ret (v := tval ⟨3, L.lower t, [], 0, 0⟩ (.slice none 0 0)) (by simp [results, Tryz.results47, go_sem, tval, tcells, hcr]) rfl ⟨_, j4, bad4, rfl, ?_, ?_, by omega, h4', HG⟩
        · exact (ST8.out.six _ _ _ _ _ _).1
        · exact (ST8.out.six _ _ _ _ _ _).2
  all_goals
    refine (space_any b s J false _ hs hjk ST.out.rdr).mono ?_
    rintro e w8 ⟨j6, rfl, hr8, hb8, h6, h6', HJ6⟩
    have ST8 := Lib.hid (ST.out.step hr8 hb8)
    have X8 := Lib.hid (X.out.but hb8 hbA.symm)
    clear hr8 hb8 ST X
    go_wp2_with fail
    refine (value_any b s j6 _ hs h6' ST8.out.rdr).mono ?_
    rintro e w9 ⟨v, j7, bad7, rfl, hr9, hb9, h7, h7', hv, HV⟩
    have st9 := ST8.out.step hr9 hb9
    have x9 := X8.out.but hb9 hbA.symm
    obtain ⟨hcx, hfx⟩ := cells_of x9
    unfold tcells at hcx hfx
    have hlx := x9.lt
    have ST9 := Lib.hid (st9.far (k := A) (by omega) (by omega) 2 (.string ⟨v.toArray⟩))
    have X9 : Hid (Blk A (tcells ⟨KK, L.lower t, v, 0, 0⟩ (.slice none 0 0)) 77 _) := Lib.hid (x9.set 2 (.string ⟨v.toArray⟩))
    clear hr9 hb9 st9 x9 ST8 X8
    go_wp2_with fail
    clear hcx hfx hlx
    refine (space_any b s j7 bad7 _ hs h7' ST9.out.rdr).mono ?_
    rintro e w10 ⟨j8, rfl, hr10, hb10, h8, h8', HJ8⟩
    have ST10 := Lib.hid (ST9.out.step hr10 hb10)
    have X10 := Lib.hid (X9.out.but hb10 hbA.symm)
    clear hr10 hb10 ST9 X9
    go_wp2_with fail
    refine (need_any b s [93] j8 bad7 _ hs (by decide) h8' ST10.out.rdr).mono ?_
    rintro e w11 ⟨j9, bad9, rfl, hr11, hb11, h9, h9', HD⟩
    have st11 := ST10.out.step hr11 hb11
    have x11 := X10.out.but hb11 hbA.symm
    obtain ⟨hcx, hfx⟩ := cells_of x11
    obtain ⟨hcr, hfr⟩ := cells_of st11.res
    unfold tcells at hcx hfx
    unfold tzero at hcr hfr
    have hlr := st11.res.lt
    have ST11 := Lib.hid st11
    clear hr11 hb11 st11 x11 ST10 X10
    have HG : Hid (Got bad9 (L.attr (s.drop i)) (⟨KK, L.lower t, v, 0, 0⟩, s.drop j9)) := Lib.hid (by
      rcases HN.out with ⟨h0, _⟩ | ⟨_, h⟩
      · cases h0
      · rw [attr_yes (HJ1.out ▸ h), attrEnd_yes (HJ3.out ▸ HO.out)]
        exact attrRest_got (HJ6.out ▸ HV.out) HJ8.out HD.out)
    clear HD HN HJ1 HJ3 HV HJ6 HJ8 HO
    go_wp2_with fail
    refine bodyPost_ret (v := tval ⟨KK, L.lower t, v, 0, 0⟩ (.slice none 0 0)) (by simp [results, Tryz.results47, go_sem, tval, tcells, hcr]) rfl ⟨_, j9, bad9, rfl, ?_, ?_, by omega, h9', HG⟩
    · exact (ST11.out.six _ _ _ _ _ _).1
    · exact (ST11.out.six _ _ _ _ _ _).2

end K
end Go.Proofs.YtnmcgmbhkmfiaaaGreatDoor
