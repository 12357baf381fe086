/- The reader of selectors: attribute. The reader of selectors: number and sign, whatever comes. The reader of selectors: nth. Tests, parts and selectors in memory. An entry of the table of pseudo-classes. Tests in memory; the reader of selectors: pseudo. The reader of selectors: what a part is made of. -/
import Derived.Test.YtafkeolpadfjfaaGreatDoorCaseLaw
import Derived.Test.YtafkeolpadfjfaaGreatDoorOwn
import Derived.Lib.AtoiAllCases
import Derived.Lib.AtoiErrMem
set_option linter.unusedVariables false
set_option linter.unusedSimpArgs false
namespace Go.Proofs.YtafkeolpadfjfaaGreatDoor
open Go.RowKit
namespace K
open H
section
variable {b : Nat} {w w' : World}
theorem IsRdr.but_far {s : List UInt8} {i : Nat} {bad : Bool} (h : IsRdr b s i bad w) {k : Nat} (hne : b ≠ k) (o : Nat) (v : Value) : IsRdr b s i bad (w.setCell ⟨k, o, none⟩ v) := (Below.heap_setCell w ⟨k, o, none⟩ v b hne).trans h
theorem IsRdr.alloc {s : List UInt8} {i : Nat} {bad : Bool} (h : IsRdr b s i bad w) (o : Obj) : IsRdr b s i bad (w.alloc o) := (Below.heap_alloc w o b (lt_of_block h)).trans h
end
def tcells (t : L.Tst) (nv : Value) : Array Value := #[.int .i64 t.kind, .string ⟨t.name.toArray⟩, .string ⟨t.value.toArray⟩, .int .i64 t.a, .int .i64 t.b, nv]
def tval (t : L.Tst) (nv : Value) : Value := .agg (tcells t nv)
def tzero : Array Value := #[.int .i64 0, .string ⟨#[]⟩, .string ⟨#[]⟩, .int .i64 0, .int .i64 0, .slice none 0 0]
def TstPost (b : Nat) (s : List UInt8) (i : Nat) (o : Option (L.Tst × List UInt8)) (w : World) (e : Ending) (w' : World) : Prop :=
 ∃ (t : L.Tst) (j : Nat) (bad' : Bool), e = .returned (tval t (.slice none 0 0)) ∧ IsRdr b s j bad' w' ∧ But b w w' ∧ i ≤ j ∧ j ≤ s.length ∧ Hid (Got bad' o (t, s.drop j))
/-- The reader, the block of the result, and all else as it was. -/
structure RdSt (b : Nat) (s : List UInt8) (j : Nat) (bad : Bool) (R : Nat) (r : Array Value) (T : TypeId) (w0 w : World) : Prop where
 rdr : IsRdr b s j bad w
 res : Blk R r T w
 but : But b w0 w
 hb : b < w0.heap.size
 hR : w0.heap.size ≤ R
section
variable {b : Nat} {s : List UInt8} {j j' : Nat} {bad bad' : Bool} {R : Nat} {r : Array Value} {T : TypeId} {w0 w w' : World}
theorem RdSt.step (h : RdSt b s j bad R r T w0 w) (hr : IsRdr b s j' bad' w') (hB : But b w w') : RdSt b s j' bad' R r T w0 w' :=
 ⟨hr, h.res.but hB (by have := h.hb; have := h.hR; omega), h.but.trans hB, h.hb, h.hR⟩
theorem RdSt.below (h : RdSt b s j bad R r T w0 w) (hB : Below w.heap.size w w') : RdSt b s j bad R r T w0 w' := h.step (h.rdr.below hB) (But.of hB)
theorem RdSt.alloc (h : RdSt b s j bad R r T w0 w) (o : Obj) : RdSt b s j bad R r T w0 (w.alloc o) := ⟨h.rdr.alloc o, h.res.alloc o, h.but.alloc o, h.hb, h.hR⟩
theorem RdSt.drewN (h : RdSt b s j bad R r T w0 w) (n : Nat) : RdSt b s j bad R r T w0 (w.drewN n) := ⟨h.rdr.drewN n, h.res, h.but.drewN n, h.hb, h.hR⟩
theorem RdSt.far (h : RdSt b s j bad R r T w0 w) {k : Nat} (hk : w0.heap.size ≤ k) (hkR : R ≠ k) (o : Nat) (v : Value) : RdSt b s j bad R r T w0 (w.setCell ⟨k, o, none⟩ v) :=
 ⟨h.rdr.but_far (by have := h.hb; omega) o v, h.res.far hkR o v, h.but.late hk o v, h.hb, h.hR⟩
theorem RdSt.set (h : RdSt b s j bad R r T w0 w) (o : Nat) (v : Value) : RdSt b s j bad R (r.setIfInBounds o v) T w0 (w.setCell ⟨R, o, none⟩ v) :=
 ⟨h.rdr.but_far (by have := h.hb; have := h.hR; omega) o v, h.res.set o v, h.but.late h.hR o v, h.hb, h.hR⟩
theorem RdSt.new (hr : IsRdr b s j bad w) (cs : Array Value) (T : TypeId) : RdSt b s j bad w.heap.size cs T w (w.alloc (.cells cs T)) :=
 ⟨hr.alloc _, Blk.new w cs T, (But.refl _ _).alloc _, lt_of_block hr, Nat.le_refl _⟩
theorem RdSt.six (h : RdSt b s j bad R r T w0 w) (v0 v1 v2 v3 v4 v5 : Value) :
  IsRdr b s j bad ((((((w.setCell ⟨R, 0, none⟩ v0).setCell ⟨R, 1, none⟩ v1).setCell ⟨R, 2, none⟩ v2).setCell ⟨R, 3, none⟩ v3).setCell ⟨R, 4, none⟩ v4).setCell ⟨R, 5, none⟩ v5) ∧
  But b w0 ((((((w.setCell ⟨R, 0, none⟩ v0).setCell ⟨R, 1, none⟩ v1).setCell ⟨R, 2, none⟩ v2).setCell ⟨R, 3, none⟩ v3).setCell ⟨R, 4, none⟩ v4).setCell ⟨R, 5, none⟩ v5) :=
 have h := ((((((h.set 0 v0).set 1 v1).set 2 v2).set 3 v3).set 4 v4).set 5 v5)
 ⟨h.rdr, h.but⟩
theorem RdSt.lt (h : RdSt b s j bad R r T w0 w) : b < w.heap.size := lt_of_block h.rdr
end
theorem LowerS (l : List UInt8) (w : World) (h : l.length ≤ 1000000) :
  Calls Tryz.prog 38 #[.string ⟨l.toArray⟩] w fun e w' => e = .returned (.string ⟨(L.lower l).toArray⟩) ∧ Below w.heap.size w w' := by
 have := T.Lower ⟨l.toArray⟩ w (by rw [bytes_size]; omega)
 rw [bytes_toList] at this
 exact this
theorem attr_no {r : List UInt8} (h : L.ident (L.space r) = none) : L.attr r = none := by unfold L.attr; rw [h]
theorem attr_yes {r n u : List UInt8} (h : L.ident (L.space r) = some (n, u)) : L.attr r = L.attrEnd n u := by unfold L.attr; rw [h]
theorem attrEnd_no {n r : List UInt8} (h : L.op (L.space r) = none) : L.attrEnd n r = (match L.need [93] (L.space r) with | none => none | some u => some (⟨3, L.lower n, [], 0, 0⟩, u)) := by unfold L.attrEnd; rw [h]; rfl
theorem attrEnd_yes {n r u : List UInt8} {k : Nat} (h : L.op (L.space r) = some (k, u)) : L.attrEnd n r = L.attrRest n k u := by unfold L.attrEnd; rw [h]
/-- The value and the bracket behind it. -/
theorem attrRest_got {n u v x y z : List UInt8} {k : Nat} {b1 b2 : Bool} (h1 : Got b1 (L.value (L.space u)) (v, x)) (hz : y = L.space x) (h2 : (b1 = true → b2 = true) ∧ (b1 = false → Got b2 (L.need [93] y) z)) :
  Got b2 (L.attrRest n k u) (⟨k, L.lower n, v, 0, 0⟩, z) := by
 unfold L.attrRest
 rcases h1 with ⟨rfl, h1⟩ | ⟨rfl, h1⟩
 ·rw [h2.1 rfl, h1]; exact Got.no rfl
 ·rw [h1]
  subst hz
  rcases h2.2 rfl with ⟨rfl, h3⟩ | ⟨rfl, h3⟩
  ·exact Got.no (by show (match L.need [93] (L.space x) with | none => none | some y => _) = _; rw [h3])
  ·exact Got.yes (by show (match L.need [93] (L.space x) with | none => none | some y => _) = _; rw [h3])
set_option maxHeartbeats 4000000 in
theorem attrib (b : Nat) (s : List UInt8) (i : Nat) (w : World) (hs : s.length ≤ 1000000) (hi : i ≤ s.length) (hR : IsRdr b s i false w) :
  Calls Tryz.prog 166 #[.pointer (some ⟨b, 0, none⟩)] w (TstPost b s i (L.attr (s.drop i)) w) := by
 have HR := Lib.hid hR
 have hlb := lt_of_block hR
 clear hR
 go_enter Tryz.func166, Tryz.ntmps166
 go_wp2_with fail
 have st0 := RdSt.new HR.out tzero 146
 refine (space_any b s i false _ hs hi st0.rdr).mono ?_
 rintro e w1 ⟨j1, rfl, hr1, hb1, h1, h1', HJ1⟩
 have ST1 := Lib.hid (st0.step hr1 hb1)
 have z1 := hb1.size
 clear st0 hr1 hb1
 go_wp2_with fail
 refine (name_any b s j1 _ hs h1' ST1.out.rdr).mono ?_
 rintro e w2 ⟨t, j2, bad2, rfl, hr2, hb2, h2, h2', ht, HN⟩
 have ST2 := Lib.hid (ST1.out.step hr2 hb2)
 have z2 := hb2.size
 clear hr2 hb2
 go_wp2_with fail
 refine (LowerS t _ (by omega)).mono ?_
 rintro e w3 ⟨rfl, b3⟩
 have ST3 := Lib.hid (ST2.out.below b3)
 have z3 := b3.size
 clear b3
 go_wp2_with fail
 have hA : w.heap.size < w3.heap.size := by have := ST1.out.res.lt; omega
 have hbA : b ≠ w3.heap.size := by omega
 refine (space_any b s j2 bad2 _ hs h2' (ST3.out.alloc _).rdr).mono ?_
 rintro e w4 ⟨j3, rfl, hr4, hb4, h3, h3', HJ3⟩
 have ST4 := Lib.hid ((ST3.out.alloc _).step hr4 hb4)
 have X4 : Hid (Blk w3.heap.size (tcells ⟨3, L.lower t, [], 0, 0⟩ (.slice none 0 0)) 146 w4) := Lib.hid ((Blk.new w3 _ _).but hb4 hbA.symm)
 clear hr4 hb4 ST1 ST2 ST3 z1 z2 z3
 generalize w3.heap.size = A at *
 generalize hRR : w.heap.size = R at *
 go_wp2_with fail
 refine (take_any b s [61] j3 bad2 _ hs (by decide) h3' ST4.out.rdr).mono ?_
 rintro e w5 (⟨rfl, hr5, hb5, HT⟩ | ⟨rfl, hr5, hb5, HT⟩)
 case' inl =>
  have st5 := ST4.out.step hr5 hb5
  have x5 := X4.out.but hb5 hbA.symm
  have hjk : j3 + 1 ≤ s.length := by
   have := prefix_len HT.out.2
   rw [List.length_drop] at this; simp at this; omega
  obtain rfl : bad2 = false := HT.out.1
  have HO : Hid (L.op (s.drop j3) = some (4, s.drop (j3 + 1))) := Lib.hid (by unfold L.op; rw [if_pos HT.out.2, List.drop_drop])
  obtain ⟨hcx, hfx⟩ := cells_of x5
  unfold tcells at hcx hfx
  have hlx := x5.lt
  have ST := Lib.hid (st5.far (k := A) (by omega) (by omega) 0 (.int .i64 4))
  have X : Hid (Blk A (tcells ⟨4, L.lower t, [], 0, 0⟩ (.slice none 0 0)) 146 _) := Lib.hid (x5.set 0 (.int .i64 4))
  clear hr5 hb5 st5 x5 HT ST4 X4
  go_wp2_with fail
  clear hcx hfx hlx
  generalize (w5.setCell ⟨A, 0, none⟩ (.int .i64 4)) = W at *
  generalize 4 = KK at HO X
  have hjj : j3 ≤ j3 + 1 := by omega
  generalize j3 + 1 = J at HO ST hjk hjj ⊢
 case' inr =>
  have ST5 := Lib.hid (ST4.out.step hr5 hb5)
  have X5 := Lib.hid (X4.out.but hb5 hbA.symm)
  clear hr5 hb5 ST4 X4
  go_wp2_with fail
  refine (take_any b s [126, 61] j3 bad2 _ hs (by decide) h3' ST5.out.rdr).mono ?_
  rintro e w6 (⟨rfl, hr5, hb5, HT2⟩ | ⟨rfl, hr5, hb5, HT2⟩)
  case' inl =>
   have g1 : ([61] : List UInt8).isPrefixOf (s.drop j3) = false := by
    rcases HT.out with h | h
    ·rw [HT2.out.1] at h; cases h
    ·exact h
   have st5 := ST5.out.step hr5 hb5
   have x5 := X5.out.but hb5 hbA.symm
   have hjk : j3 + 2 ≤ s.length := by
    have := prefix_len HT2.out.2
    rw [List.length_drop] at this; simp at this; omega
   obtain rfl : bad2 = false := HT2.out.1
   have HO : Hid (L.op (s.drop j3) = some (5, s.drop (j3 + 2))) := Lib.hid (by unfold L.op; rw [if_neg (by rw [g1]; simp)]; rw [if_pos HT2.out.2, List.drop_drop])
   obtain ⟨hcx, hfx⟩ := cells_of x5
   unfold tcells at hcx hfx
   have hlx := x5.lt
   have ST := Lib.hid (st5.far (k := A) (by omega) (by omega) 0 (.int .i64 5))
   have X : Hid (Blk A (tcells ⟨5, L.lower t, [], 0, 0⟩ (.slice none 0 0)) 146 _) := Lib.hid (x5.set 0 (.int .i64 5))
   clear hr5 hb5 st5 x5 HT2 ST5 X5
   go_wp2_with fail
   clear hcx hfx hlx
   generalize (w6.setCell ⟨A, 0, none⟩ (.int .i64 5)) = W at *
   generalize 5 = KK at HO X
   have hjj : j3 ≤ j3 + 2 := by omega
   generalize j3 + 2 = J at HO ST hjk hjj ⊢
  case' inr =>
   have ST6 := Lib.hid (ST5.out.step hr5 hb5)
   have X6 := Lib.hid (X5.out.but hb5 hbA.symm)
   clear hr5 hb5 ST5 X5
   go_wp2_with fail
   refine (take_any b s [94, 61] j3 bad2 _ hs (by decide) h3' ST6.out.rdr).mono ?_
   rintro e w7 (⟨rfl, hr5, hb5, HT3⟩ | ⟨rfl, hr5, hb5, HT3⟩)
   case' inl =>
    have g1 : ([61] : List UInt8).isPrefixOf (s.drop j3) = false := by
     rcases HT.out with h | h
     ·rw [HT3.out.1] at h; cases h
     ·exact h
    have g2 : ([126, 61] : List UInt8).isPrefixOf (s.drop j3) = false := by
     rcases HT2.out with h | h
     ·rw [HT3.out.1] at h; cases h
     ·exact h
    have st5 := ST6.out.step hr5 hb5
    have x5 := X6.out.but hb5 hbA.symm
    have hjk : j3 + 2 ≤ s.length := by
     have := prefix_len HT3.out.2
     rw [List.length_drop] at this; simp at this; omega
    obtain rfl : bad2 = false := HT3.out.1
    have HO : Hid (L.op (s.drop j3) = some (6, s.drop (j3 + 2))) := Lib.hid (by unfold L.op; rw [if_neg (by rw [g1]; simp)]; rw [if_neg (by rw [g2]; simp)]; rw [if_pos HT3.out.2, List.drop_drop])
    obtain ⟨hcx, hfx⟩ := cells_of x5
    unfold tcells at hcx hfx
    have hlx := x5.lt
    have ST := Lib.hid (st5.far (k := A) (by omega) (by omega) 0 (.int .i64 6))
    have X : Hid (Blk A (tcells ⟨6, L.lower t, [], 0, 0⟩ (.slice none 0 0)) 146 _) := Lib.hid (x5.set 0 (.int .i64 6))
    clear hr5 hb5 st5 x5 HT3 ST6 X6
    go_wp2_with fail
    clear hcx hfx hlx
    generalize (w7.setCell ⟨A, 0, none⟩ (.int .i64 6)) = W at *
    generalize 6 = KK at HO X
    have hjj : j3 ≤ j3 + 2 := by omega
    generalize j3 + 2 = J at HO ST hjk hjj ⊢
   case inr =>
    have ST7 := Lib.hid (ST6.out.step hr5 hb5)
    have X7 := Lib.hid (X6.out.but hb5 hbA.symm)
    clear hr5 hb5 ST6 X6
    go_wp2_with fail
    refine (need_any b s [93] j3 bad2 _ hs (by decide) h3' ST7.out.rdr).mono ?_
    rintro e w8 ⟨j4, bad4, rfl, hr8, hb8, h4, h4', HD⟩
    have st8 := ST7.out.step hr8 hb8
    have x8 := X7.out.but hb8 hbA.symm
    obtain ⟨hcx, hfx⟩ := cells_of x8
    obtain ⟨hcr, hfr⟩ := cells_of st8.res
    unfold tcells at hcx hfx
    unfold tzero at hcr hfr
    have hlr := st8.res.lt
    have ST8 := Lib.hid st8
    clear hr8 hb8 st8 x8 ST7 X7
    have HG : Hid (Got bad4 (L.attr (s.drop i)) (⟨3, L.lower t, [], 0, 0⟩, s.drop j4)) := Lib.hid (by
     rcases HN.out with ⟨rfl, h⟩ | ⟨rfl, h⟩
     ·rw [HD.out.1 rfl]; exact Got.no (attr_no (HJ1.out ▸ h))
     ·have hno : L.op (L.space (s.drop j2)) = none := by
       rw [← HJ3.out]
       have f : ∀ {p : Bool}, (false = true ∨ p = false) → p = false := fun h => h.elim (fun h => (by cases h)) id
       unfold L.op
       rw [if_neg (by rw [f HT.out]; simp), if_neg (by rw [f HT2.out]; simp), if_neg (by rw [f HT3.out]; simp)]
      rw [attr_yes (HJ1.out ▸ h), attrEnd_no hno, ← HJ3.out]
      rcases HD.out.2 rfl with ⟨rfl, h3⟩ | ⟨rfl, h3⟩
      ·exact Got.no (by rw [h3])
      ·exact Got.yes (by rw [h3]))
    clear HD HN HJ1 HJ3 HT HT2 HT3
    go_wp2_with fail
    refine bodyPost_ret (v := tval ⟨3, L.lower t, [], 0, 0⟩ (.slice none 0 0)) (by simp [results, Tryz.results166, go_sem, tval, tcells, hcr]) rfl ⟨_, j4, bad4, rfl, ?_, ?_, by omega, h4', HG⟩
    ·exact (ST8.out.six _ _ _ _ _ _).1
    ·exact (ST8.out.six _ _ _ _ _ _).2
 all_goals
  refine (space_any b s J false _ hs hjk ST.out.rdr).mono ?_
  rintro e w8 ⟨j6, rfl, hr8, hb8, h6, h6', HJ6⟩
  have ST8 := Lib.hid (ST.out.step hr8 hb8)
  have X8 := Lib.hid (X.out.but hb8 hbA.symm)
  clear hr8 hb8 ST X
  go_wp2_with fail
  refine (value_any b s j6 _ hs h6' ST8.out.rdr).mono ?_
  rintro e w9 ⟨v, j7, bad7, rfl, hr9, hb9, h7, h7', hv, HV⟩
  have st9 := ST8.out.step hr9 hb9
  have x9 := X8.out.but hb9 hbA.symm
  obtain ⟨hcx, hfx⟩ := cells_of x9
  unfold tcells at hcx hfx
  have hlx := x9.lt
  have ST9 := Lib.hid (st9.far (k := A) (by omega) (by omega) 2 (.string ⟨v.toArray⟩))
  have X9 : Hid (Blk A (tcells ⟨KK, L.lower t, v, 0, 0⟩ (.slice none 0 0)) 146 _) := Lib.hid (x9.set 2 (.string ⟨v.toArray⟩))
  clear hr9 hb9 st9 x9 ST8 X8
  go_wp2_with fail
  clear hcx hfx hlx
  refine (space_any b s j7 bad7 _ hs h7' ST9.out.rdr).mono ?_
  rintro e w10 ⟨j8, rfl, hr10, hb10, h8, h8', HJ8⟩
  have ST10 := Lib.hid (ST9.out.step hr10 hb10)
  have X10 := Lib.hid (X9.out.but hb10 hbA.symm)
  clear hr10 hb10 ST9 X9
  go_wp2_with fail
  refine (need_any b s [93] j8 bad7 _ hs (by decide) h8' ST10.out.rdr).mono ?_
  rintro e w11 ⟨j9, bad9, rfl, hr11, hb11, h9, h9', HD⟩
  have st11 := ST10.out.step hr11 hb11
  have x11 := X10.out.but hb11 hbA.symm
  obtain ⟨hcx, hfx⟩ := cells_of x11
  obtain ⟨hcr, hfr⟩ := cells_of st11.res
  unfold tcells at hcx hfx
  unfold tzero at hcr hfr
  have hlr := st11.res.lt
  have ST11 := Lib.hid st11
  clear hr11 hb11 st11 x11 ST10 X10
  have HG : Hid (Got bad9 (L.attr (s.drop i)) (⟨KK, L.lower t, v, 0, 0⟩, s.drop j9)) := Lib.hid (by
   rcases HN.out with ⟨h0, _⟩ | ⟨_, h⟩
   ·cases h0
   ·rw [attr_yes (HJ1.out ▸ h), attrEnd_yes (HJ3.out ▸ HO.out)]
    exact attrRest_got (HJ6.out ▸ HV.out) HJ8.out HD.out)
  clear HD HN HJ1 HJ3 HV HJ6 HJ8 HO
  go_wp2_with fail
  refine bodyPost_ret (v := tval ⟨KK, L.lower t, v, 0, 0⟩ (.slice none 0 0)) (by simp [results, Tryz.results166, go_sem, tval, tcells, hcr]) rfl ⟨_, j9, bad9, rfl, ?_, ?_, by omega, h9', HG⟩
  ·exact (ST11.out.six _ _ _ _ _ _).1
  ·exact (ST11.out.six _ _ _ _ _ _).2
end K
end Go.Proofs.YtafkeolpadfjfaaGreatDoor
namespace Go.Proofs.YtafkeolpadfjfaaGreatDoor
open Go.RowKit
namespace K
open H
/-- What Atoi asks of the world: its two errors are laid. -/
structure ErrEnv (w : World) : Prop where
 syn : ∃ te pe, w.cell? ⟨8, 0, none⟩ = some (.iface te pe)
 rng : ∃ te pe, w.cell? ⟨9, 0, none⟩ = some (.iface te pe)
/-- The first block that is no variable. -/
def top : Nat := max (max 8 9) (max (max 2 7) (max 3 4)) + 1
theorem dig_nat {c : UInt8} (h : L.isDig c = true) : 48 ≤ c.toNat ∧ c.toNat ≤ 57 := by unfold L.isDig at h; simpa using h
theorem tw_all {p : UInt8 → Bool} : ∀ {l : List UInt8} {c : UInt8}, c ∈ l.takeWhile p → p c = true
 | [], _, h => by cases h
 | d :: r, c, h => by
  by_cases hd : p d = true
  ·rw [List.takeWhile_cons_of_pos hd] at h
   rcases List.mem_cons.1 h with rfl | h
   ·exact hd
   ·exact tw_all h
  ·rw [List.takeWhile_cons_of_neg hd] at h; cases h
theorem prefix_one {c : UInt8} {s : List UInt8} : ([c] : List UInt8).isPrefixOf s = true → ∃ r, s = c :: r := by
 intro h
 cases s with
 | nil => simp [List.isPrefixOf] at h
 | cons d r =>
  have : c = d := by simpa [List.isPrefixOf] using h
  exact ⟨r, by rw [this]⟩
end K
end Go.Proofs.YtafkeolpadfjfaaGreatDoor
namespace Go.Proofs.YtafkeolpadfjfaaGreatDoor
open Go.RowKit
namespace K
open H
def wd (k : Nat) : List UInt8 := if k = 0 then [111, 100, 100] else [101, 118, 101, 110]
theorem lower_length (l : List UInt8) : (L.lower l).length = l.length := by unfold L.lower; simp
theorem coef_no {s : List UInt8} {j : Nat} (h : L.isDig (s.getD j 0) = false) : L.coef (s.drop j) = some (1, false, s.drop j) := by
 cases hd : s.drop j with
 | nil => rfl
 | cons c r =>
  rw [getD_drop hd] at h
  simp [L.coef, h]
theorem coef_yes {s : List UInt8} {j : Nat} (h : L.isDig (s.getD j 0) = true) : L.coef (s.drop j) = (match L.number (s.drop j) with | none => none | some (n, r) => some (n, true, r)) := by
 cases hd : s.drop j with
 | nil =>
  rw [getD_past (by have := congrArg List.length hd; rw [List.length_drop] at this; simp at this; omega)] at h
  exact absurd h (by decide)
 | cons c r =>
  rw [getD_drop hd] at h
  simp [L.coef, h]
  cases L.number (c :: r) <;> rfl
theorem tail_n {s : List UInt8} {j : Nat} {g : Int} {n : Nat} {sm : Bool} (h : L.isN (s.getD j 0) = true) : j + 1 ≤ s.length ∧ L.nthTail g n sm (s.drop j) = (match L.offset (s.drop (j + 1)) with | none => none | some (b, u) => some (⟨9, [], [], g * n, b⟩, u)) := by
 cases hd : s.drop j with
 | nil =>
  rw [getD_past (by have := congrArg List.length hd; rw [List.length_drop] at this; simp at this; omega)] at h
  exact absurd h (by decide)
 | cons c r =>
  rw [getD_drop hd] at h
  refine ⟨lt_drop hd, ?_⟩
  rw [drop_more hd]
  simp [L.nthTail, h]
  cases L.offset r <;> rfl
theorem tail_o {s : List UInt8} {j : Nat} {g : Int} {n : Nat} {sm : Bool} (h : L.isN (s.getD j 0) = false) : L.nthTail g n sm (s.drop j) = if sm then some (⟨9, [], [], 0, g * n⟩, s.drop j) else none := by
 cases hd : s.drop j with
 | nil => rfl
 | cons c r =>
  rw [getD_drop hd] at h
  simp [L.nthTail, h]
theorem rest_none {r : List UInt8} {g : Int} {ok : Bool} {u : List UInt8} (h : L.sign r = (g, ok, u)) (hc : L.coef u = none) : L.nthRest r = none := by
 unfold L.nthRest; rw [h]; simp only [hc]
theorem rest_some {r : List UInt8} {g : Int} {ok sm : Bool} {u v : List UInt8} {n : Nat} (h : L.sign r = (g, ok, u)) (hc : L.coef u = some (n, sm, v)) : L.nthRest r = L.nthTail g n sm v := by
 unfold L.nthRest; rw [h]; simp only [hc]
theorem offset_no {t u v : List UInt8} {g : Int} (h : L.space t = u) (hs : L.sign u = (g, false, v)) : L.offset t = some (0, t) := by
 unfold L.offset; rw [h, hs]
theorem offset_yes {t u v x : List UInt8} {g : Int} (h : L.space t = u) (hs : L.sign u = (g, true, v)) (hv : L.space v = x) : L.offset t = (match L.number x with | none => none | some (n, y) => some (g * n, y)) := by
 unfold L.offset; rw [h, hs]; simp only [hv]
 cases L.number x <;> rfl
end K
end Go.Proofs.YtafkeolpadfjfaaGreatDoor
namespace Go.Proofs.YtafkeolpadfjfaaGreatDoor
open Go.RowKit
namespace K
open H
/-- A slice of tests without tests of their own. -/
def NotsAt (S : Nat → Prop) (w : World) (v : Value) (l : List L.Tst) : Prop := ListAt (fun t v => (tcells t v).toList) (fun _ _ v _ => v = .slice none 0 0) S w v l
theorem keeps_nots : Keeps NotsAt := fun {_ _ _ _ _ x} h k => ListAt.keep (I := fun _ _ v (_ : L.Tst) => v = .slice none 0 0) (fun h _ => h) h k
/-- What lies behind the slice of a test. -/
def ITest (S : Nat → Prop) (w : World) (v : Value) (t : L.Test) : Prop := NotsAt S w v t.nots
theorem keeps_test : Keeps ITest := fun h k => keeps_nots h k
def cTest (t : L.Test) (v : Value) : List Value := (tcells t.t v).toList
theorem cTest_len (t : L.Test) (v : Value) : (cTest t v).length = 6 := rfl
def TestsAt (S : Nat → Prop) (w : World) (v : Value) (l : List L.Test) : Prop := ListAt cTest ITest S w v l
theorem keeps_tests : Keeps TestsAt := fun h k => ListAt.keep keeps_test h k
def IPart (S : Nat → Prop) (w : World) (v : Value) (p : L.Part) : Prop := TestsAt S w v p.tests
theorem keeps_part : Keeps IPart := fun h k => keeps_tests h k
def cPart (p : L.Part) (v : Value) : List Value := [.int .i64 p.join, .string ⟨p.type.toArray⟩, v]
theorem cPart_len (t : L.Part) (v : Value) : (cPart t v).length = 3 := rfl
def PartsAt (S : Nat → Prop) (w : World) (v : Value) (l : List L.Part) : Prop := ListAt cPart IPart S w v l
theorem keeps_parts : Keeps PartsAt := fun h k => ListAt.keep keeps_part h k
def cSel (_ : List L.Part) (v : Value) : List Value := [v]
theorem cSel_len (t : List L.Part) (v : Value) : (cSel t v).length = 1 := rfl
def SelsAt (S : Nat → Prop) (w : World) (v : Value) (l : List (List L.Part)) : Prop := ListAt cSel PartsAt S w v l
theorem keeps_sels : Keeps SelsAt := fun h k => ListAt.keep keeps_parts h k
theorem NotsAt.none_ {S : Nat → Prop} {w : World} {v : Value} (h : NotsAt S w v []) : v = .slice none 0 0 := by
 obtain ⟨ps, h1, h2, h3⟩ := h
 rcases h2 with ⟨hv, hn⟩ | ⟨g', cap', hv, hn, _⟩
 ·exact hv
 ·simp at hn
/-- Tests that have no tests of their own. -/
theorem TestsAt.nots {S : Nat → Prop} {w : World} {v : Value} {l : List L.Test} (h : TestsAt S w v l) (hl : ∀ t ∈ l, t.nots = []) : NotsAt S w v (l.map (·.t)) := by
 obtain ⟨ps, rfl, h2, h3⟩ := h
 refine ⟨ps.map (fun p => (p.1.t, p.2)), by simp, ?_, ?_⟩
 ·rw [List.flatMap_map]
  simpa [cTest] using h2
 ·intro p hp
  obtain ⟨q, hq, rfl⟩ := List.mem_map.1 hp
  have h4 := h3 q hq
  unfold ITest at h4
  rw [hl q.1 (List.mem_map_of_mem hq)] at h4
  exact NotsAt.none_ h4
def npOf (inner : Bool) : Option (List UInt8 → Option ((List UInt8 × List L.Tst) × List UInt8)) := if inner then none else some L.inner
def TestPost (b : Nat) (s : List UInt8) (i : Nat) (inner : Bool) (o : Option (L.Test × List UInt8)) (w : World) (e : Ending) (w' : World) : Prop :=
 ∃ (t : L.Test) (nv : Value) (j : Nat) (bad' : Bool), e = .returned (tval t.t nv) ∧ Hid (NotsAt (w.heap.size ≤ ·) w' nv t.nots) ∧ IsRdr b s j bad' w' ∧ But b w w' ∧ i ≤ j ∧ j ≤ s.length ∧ Hid (inner = true → t.nots = []) ∧ Hid (Got bad' o (t, s.drop j))
/-- A part's value: its type, and the tests behind v. -/
def PartPost (b : Nat) (s : List UInt8) (i : Nat) (inner : Bool) (o : Option ((List UInt8 × List L.Test) × List UInt8)) (w : World) (e : Ending) (w' : World) : Prop :=
 ∃ (ty : List UInt8) (v : Value) (ts : List L.Test) (j : Nat) (bad' : Bool), e = .returned (.agg #[.int .i64 0, .string ⟨ty.toArray⟩, v]) ∧ Hid (TestsAt (w.heap.size ≤ ·) w' v ts) ∧ IsRdr b s j bad' w' ∧ But b w w' ∧ i ≤ j ∧ j ≤ s.length ∧ ty.length ≤ s.length ∧ Hid (ts.length ≤ j - i) ∧ Hid (inner = true → ∀ t ∈ ts, t.nots = []) ∧ Hid (Got bad' o ((ty, ts), s.drop j))
theorem Blk.six {g : Nat} {T : TypeId} {w : World} (h : Blk g tzero T w) (v0 v1 v2 v3 v4 v5 : Value) :
  Blk g #[v0, v1, v2, v3, v4, v5] T ((((((w.setCell ⟨g, 0, none⟩ v0).setCell ⟨g, 1, none⟩ v1).setCell ⟨g, 2, none⟩ v2).setCell ⟨g, 3, none⟩ v3).setCell ⟨g, 4, none⟩ v4).setCell ⟨g, 5, none⟩ v5) :=
 (((((H.Blk.set h 0 v0).set 1 v1).set 2 v2).set 3 v3).set 4 v4).set 5 v5
theorem need_none {p r : List UInt8} (h : p.isPrefixOf r = false) : L.need p r = none := by unfold L.need; rw [if_neg (by rw [h]; simp)]
end K
end Go.Proofs.YtafkeolpadfjfaaGreatDoor
namespace Go.Proofs.YtafkeolpadfjfaaGreatDoor
open Go.RowKit
namespace K
open H
def pname (k : Nat) : List UInt8 := (L.pseudos.getD k ([], 0)).1
def pkind (k : Nat) : Nat := (L.pseudos.getD k ([], 0)).2
end K
end Go.Proofs.YtafkeolpadfjfaaGreatDoor
namespace Go.Proofs.YtafkeolpadfjfaaGreatDoor
namespace L
/-- What follows a colon. -/
def pseudo (np : Option (List UInt8 → Option ((List UInt8 × List Tst) × List UInt8))) (r : List UInt8) : Option (Test × List UInt8) :=
 match ident r with
 | none => none
 | some (n, u) => match pseudos.find? (fun p => p.1 == lower n) with
  | some p => some (⟨tst p.2 [], []⟩, u)
  | none =>
   if lower n = nthChild then (match need [40] u with
    | none => none
    | some x => match nth (space x) with
     | none => none
     | some (t, y) => match need [41] (space y) with | none => none | some z => some (⟨t, []⟩, z))
   else if lower n = not_ then (match np, need [40] u with
    | some f, some x => (match f (space x) with
     | none => none
     | some ((ty, ts), y) => match need [41] (space y) with | none => none | some z => some (⟨tst 14 ty, ts⟩, z))
    | _, _ => none)
   else none
theorem one_58 (np : Option (List UInt8 → Option ((List UInt8 × List Tst) × List UInt8))) (r : List UInt8) : one np (58 :: r) = some (pseudo np r) := rfl
section
variable {np : Option (List UInt8 → Option ((List UInt8 × List Tst) × List UInt8))} {r n u : List UInt8}
theorem pseudo_no (h : ident r = none) : pseudo np r = none := by unfold pseudo; rw [h]
theorem pseudo_word {m : List UInt8} {k : Nat} (h : ident r = some (n, u)) (hf : pseudos.find? (fun p => p.1 == lower n) = some (m, k)) : pseudo np r = some (⟨tst k [], []⟩, u) := by
 unfold pseudo; rw [h]; dsimp only; rw [hf]
theorem pseudo_nth (h : ident r = some (n, u)) (hl : lower n = nthChild) : pseudo np r = (match need [40] u with
  | none => none
  | some x => match nth (space x) with
   | none => none
   | some (t, y) => match need [41] (space y) with | none => none | some z => some (⟨t, []⟩, z)) := by
 unfold pseudo; rw [h]; dsimp only; rw [hl]
 rw [if_pos rfl]
 rfl
theorem pseudo_not (h : ident r = some (n, u)) (hl : lower n = not_) : pseudo (some inner) r = (match need [40] u with
  | none => none
  | some x => match inner (space x) with
   | none => none
   | some ((ty, ts), y) => match need [41] (space y) with | none => none | some z => some (⟨tst 14 ty, ts⟩, z)) := by
 unfold pseudo; rw [h]; dsimp only; rw [hl]
 rw [if_neg (by decide), if_pos rfl]
 cases need [40] u <;> rfl
theorem pseudo_other (h : ident r = some (n, u)) (hf : pseudos.find? (fun p => p.1 == lower n) = none) (h1 : lower n ≠ nthChild) (h2 : lower n = not_ → np = none) : pseudo np r = none := by
 unfold pseudo; rw [h]; dsimp only; rw [hf]; dsimp only
 rw [if_neg h1]
 by_cases h3 : lower n = not_
 ·rw [if_pos h3, h2 h3]
 ·rw [if_neg h3]
end
end L
open Go.RowKit
namespace K
open H
/-- What the package's variables hold. -/
structure Env (w : World) : Prop where
 err : ErrEnv w
 psn : ∀ k, k < 6 → w.cell? ⟨2, k * 2, none⟩ = some (.string ⟨(pname k).toArray⟩)
 psk : ∀ k, k < 6 → w.cell? ⟨2, k * 2 + 1, none⟩ = some (.int .i64 (pkind k))
theorem find_word {nm : List UInt8} {k : Nat} (hk : k < 6) (hn : ∀ m, m < k → pname m ≠ nm) (h : pname k = nm) : L.pseudos.find? (fun p => p.1 == nm) = some (nm, pkind k) := by
 have hc : ∀ m, m < k → (pname m == nm) = false := fun m hm => by simpa using hn m hm
 have ht : (pname k == nm) = true := by simpa using h
 rcases (by omega : k = 0 ∨ k = 1 ∨ k = 2 ∨ k = 3 ∨ k = 4 ∨ k = 5) with rfl | rfl | rfl | rfl | rfl | rfl
 all_goals
  subst h
  rfl
theorem find_none {nm : List UInt8} (hn : ∀ m, m < 6 → pname m ≠ nm) : L.pseudos.find? (fun p => p.1 == nm) = none := by
 have hc : ∀ m, m < 6 → (pname m == nm) = false := fun m hm => by simpa using hn m hm
 have h0 := hc 0 (by omega); have h1 := hc 1 (by omega); have h2 := hc 2 (by omega); have h3 := hc 3 (by omega); have h4 := hc 4 (by omega); have h5 := hc 5 (by omega)
 have e : L.pseudos = [(pname 0, pkind 0), (pname 1, pkind 1), (pname 2, pkind 2), (pname 3, pkind 3), (pname 4, pkind 4), (pname 5, pkind 5)] := rfl
 rw [e]
 simp [List.find?_cons, h0, h1, h2, h3, h4, h5]
end K
end Go.Proofs.YtafkeolpadfjfaaGreatDoor
namespace Go.Proofs.YtafkeolpadfjfaaGreatDoor
namespace L
/-- The type of a part: it, what follows, and whether there is one. -/
def headOf (s : List UInt8) : List UInt8 × List UInt8 × Bool := match s with
 | 42 :: r => ([], r, true)
 | _ => match ident s with
  | some (n, r) => (lower n, r, true)
  | none => ([], s, false)
section
variable {np : Option (List UInt8 → Option ((List UInt8 × List Tst) × List UInt8))}
theorem part_eq (s : List UInt8) : part np s = match tests np ((headOf s).2.1.length + 1) (headOf s).2.1 with
 | none => none
 | some (l, u) => if (headOf s).2.2 || !l.isEmpty then some (((headOf s).1, l), u) else none := rfl
theorem headOf_name {s n r : List UInt8} (h : ∀ r, s ≠ 42 :: r) (hi : ident s = some (n, r)) : headOf s = (lower n, r, true) := by
 unfold headOf
 split
 ·rename_i r' ; exact absurd rfl (h r')
 ·rw [hi]
theorem headOf_none {s : List UInt8} (h : ∀ r, s ≠ 42 :: r) (hi : ident s = none) : headOf s = ([], s, false) := by
 unfold headOf
 split
 ·rename_i r' ; exact absurd rfl (h r')
 ·rw [hi]
theorem one_35 {r : List UInt8} : one np (35 :: r) = some (match ident r with | none => none | some (n, u) => some (⟨tst 1 n, []⟩, u)) := rfl
theorem one_46 {r : List UInt8} : one np (46 :: r) = some (match ident r with | none => none | some (n, u) => some (⟨tst 2 n, []⟩, u)) := rfl
theorem one_91 {r : List UInt8} : one np (91 :: r) = some (match attr r with | none => none | some (t, u) => some (⟨t, []⟩, u)) := rfl
theorem one_none {s : List UInt8} (h1 : ∀ r, s ≠ 35 :: r) (h2 : ∀ r, s ≠ 46 :: r) (h3 : ∀ r, s ≠ 91 :: r) (h4 : ∀ r, s ≠ 58 :: r) : one np s = none := by
 unfold one
 split
 ·exact absurd rfl (h1 _)
 ·exact absurd rfl (h2 _)
 ·exact absurd rfl (h3 _)
 ·exact absurd rfl (h4 _)
 ·rfl
/-- What has been read of the tests, and what is to come. -/
def PInv (np : Option (List UInt8 → Option ((List UInt8 × List Tst) × List UInt8))) (s : List UInt8) (j : Nat) (bad : Bool) (done : List Test) (full : Option (List Test × List UInt8)) : Prop :=
 (bad = true ∧ full = none) ∨ (bad = false ∧ ∃ n, s.length - j < n ∧ full = (tests np n (s.drop j)).map (fun q => (done ++ q.1, q.2)))
theorem PInv.start {s : List UInt8} {j : Nat} : PInv np s j false [] (tests np ((s.drop j).length + 1) (s.drop j)) := by
 refine Or.inr ⟨rfl, (s.drop j).length + 1, by rw [List.length_drop]; omega, ?_⟩
 cases tests np ((s.drop j).length + 1) (s.drop j) <;> simp
theorem PInv.more {s : List UInt8} {j j' : Nat} {bad' : Bool} {done : List Test} {t : Test} {full : Option (List Test × List UInt8)} {o : Option (Test × List UInt8)}
  (h : PInv np s j false done full) (ho : one np (s.drop j) = some o) (hg : K.Got bad' o (t, s.drop j')) (hj : j < j') (hl : j' ≤ s.length) : PInv np s j' bad' (done ++ [t]) full := by
 rcases h with ⟨h, _⟩ | ⟨_, n, hn, hf⟩
 ·cases h
 ·obtain ⟨m, rfl⟩ : ∃ m, n = m + 1 := ⟨n - 1, by omega⟩
  unfold tests at hf
  rw [ho] at hf
  rcases hg with ⟨rfl, rfl⟩ | ⟨rfl, rfl⟩
  ·exact Or.inl ⟨rfl, by rw [hf]; rfl⟩
  ·refine Or.inr ⟨rfl, m, by omega, ?_⟩
   rw [hf]
   dsimp only
   cases tests np m (s.drop j') with
   | none => rfl
   | some q => simp
theorem PInv.last {s : List UInt8} {j : Nat} {done : List Test} {full : Option (List Test × List UInt8)}
  (h : PInv np s j false done full) (ho : one np (s.drop j) = none) : full = some (done, s.drop j) := by
 rcases h with ⟨h, _⟩ | ⟨_, n, hn, hf⟩
 ·cases h
 ·obtain ⟨m, rfl⟩ : ∃ m, n = m + 1 := ⟨n - 1, by omega⟩
  unfold tests at hf
  rw [ho] at hf
  simpa using hf
end
end L
open Go.RowKit
namespace K
open H
def pzero : Array Value := #[.int .i64 0, .string ⟨#[]⟩, .slice none 0 0]
/-- The reader, the block of the result, the part that is built, and its tests. -/
structure PartSt (b : Nat) (s : List UInt8) (j : Nat) (bad : Bool) (R P : Nat) (ty : List UInt8) (v : Value) (ts : List L.Test) (w0 w : World) : Prop where
 st : RdSt b s j bad R pzero 101 w0 w
 p : Blk P #[.int .i64 0, .string ⟨ty.toArray⟩, v] 101 w
 row : OwnAt cTest ITest (P + 1) 146 6 w v ts
 hP : R < P
section
variable {b : Nat} {s : List UInt8} {j j' : Nat} {bad bad' : Bool} {R P : Nat} {ty : List UInt8} {v : Value} {ts : List L.Test} {w0 w w' : World}
theorem PartSt.step (h : PartSt b s j bad R P ty v ts w0 w) (hr : IsRdr b s j' bad' w') (hB : But b w w') : PartSt b s j' bad' R P ty v ts w0 w' :=
 have h1 := h.st.hb
 have h2 := h.st.hR
 have h3 := h.hP
 ⟨h.st.step hr hB, h.p.but hB (by omega), h.row.keep keeps_test (Kept.but hB (by omega)), h.hP⟩
theorem PartSt.drew (h : PartSt b s j bad R P ty v ts w0 w) : PartSt b s j bad R P ty v ts w0 w.drew :=
 ⟨h.st.drewN 1, h.p, h.row.keep keeps_test ⟨Nat.le_refl _, fun g hg _ => ⟨hg, rfl⟩⟩, h.hP⟩
theorem PartSt.fresh (h : PartSt b s j bad R P ty v ts w0 w) {g : Nat} (hg : w.heap.size ≤ g) : P + 1 ≤ g ∧ v.ownBlock ≠ some g := by
 refine ⟨?_, fun he => ?_⟩
 ·have := h.p.lt; omega
 ·obtain ⟨ps, h1, h2, _⟩ := h.row
  have := (h2.lt g he).2
  omega
/-- One more test, behind the append. -/
theorem PartSt.app (h : PartSt b s j bad R P ty v ts w0 w) {o : Obj} {w5 : World} {g cap : Nat} {t : L.Test} {nv : Value} {ps : List (L.Test × Value)}
  (hps : ps.map (·.1) = ts) (hI : ∀ p ∈ ps, ITest (fun k => P + 1 ≤ k ∧ v.ownBlock ≠ some k) w p.2 p.1)
  (hown : w5.ownsRow (P + 1) 146 6 (.slice (some ⟨g, 0, none⟩) (ts.length + 1) cap) (ts.length + 1) ((ps.flatMap fun p => cTest p.1 p.2) ++ cTest t nv))
  (hgrow : (w.alloc o).grownBy w5 v.ownBlock) (hat : v.ownBlock = some g ∨ g = w.heap.size + 1) (hx : NotsAt (fun k => P + 1 ≤ k ∧ v.ownBlock ≠ some k) w nv t.nots) :
  PartSt b s j bad R P ty (.slice (some ⟨g, 0, none⟩) (ts.length + 1) cap) (ts ++ [t]) w0 (w5.setCell ⟨P, 2, none⟩ (.slice (some ⟨g, 0, none⟩) (ts.length + 1) cap)) := by
 have ka : ∀ {S : Nat → Prop}, Kept S S w (w.alloc o) := fun {S} => (Kept.refl w).alloc o
 have hv : ∀ k, v.ownBlock = some k → P + 1 ≤ k := fun k hk => by
  obtain ⟨ps, _, h2, _⟩ := h.row
  exact (h2.lt k hk).1
 have hb := h.st.hb
 have hR := h.st.hR
 have hP := h.hP
 have hsz : (w.alloc o).heap.size = w.heap.size + 1 := by simp
 have e1 : ∀ k, k < w.heap.size → k < P + 1 → w5.heap[k]? = w.heap[k]? := fun k h1 h2 =>
  (hgrow.block k (by rw [hsz]; omega) (fun he => by have := hv k he.symm; omega)).trans (Below.heap_alloc w o k h1)
 have r5 : IsRdr b s j bad w5 := (e1 b h.st.lt (by omega)).trans h.st.rdr
 have p5 : Blk P #[.int .i64 0, .string ⟨ty.toArray⟩, v] 101 w5 := (e1 P h.p.lt (by omega)).trans h.p
 have R5 : Blk R pzero 101 w5 := (e1 R h.st.res.lt (by omega)).trans h.st.res
 have b5 : But b w0 w5 := ⟨hgrow.os.trans h.st.but.os, hgrow.tape.trans h.st.but.tape, hgrow.output.trans h.st.but.output, by have := hgrow.size; have := h.st.but.size; omega, fun k hk hne =>
  (e1 k (by have := h.st.but.size; omega) (by omega)).trans (h.st.but.block k hk hne)⟩
 have s5 : RdSt b s j bad R pzero 101 w0 w5 := ⟨r5, R5, b5, hb, hR⟩
 refine ⟨s5.far (by omega) (by omega) 2 _, H.Blk.set p5 2 _, OwnAt.keep keeps_test (w := w5) ?_ ((Kept.refl w5).set (by omega) 2 _), hP⟩
 exact OwnAt.append (I := ITest) (c := cTest) (x := t) (vx := nv) keeps_test (w := w.alloc o) (v := v) ⟨ps, hps, hown, fun p hp => keeps_test (x := p.1) (hI p hp) ka⟩ hgrow (hat.imp id (fun h => by rw [hsz]; omega)) (keeps_nots hx ka)
end
end K
end Go.Proofs.YtafkeolpadfjfaaGreatDoor
