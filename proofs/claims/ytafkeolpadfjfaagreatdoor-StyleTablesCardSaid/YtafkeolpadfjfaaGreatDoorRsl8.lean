/- What the functions of the reference's reader come to: attr. What pseudo and part of the reference's reader come to: the posts. What the functions of the reference's reader come to: the state of part. -/
import Derived.Test.YtafkeolpadfjfaaGreatDoorRsl4
import Derived.Test.YtafkeolpadfjfaaGreatDoorRsl5
import Derived.Test.YtafkeolpadfjfaaGreatDoorSel14
import Derived.Deep.DeepCutAuto
import Derived.Test.YtafkeolpadfjfaaGreatDoorSel15
import Derived.Test.YtafkeolpadfjfaaGreatDoorOwn
set_option linter.unusedVariables false
set_option linter.unusedSimpArgs false
namespace Go.Proofs.YtafkeolpadfjfaaGreatDoor
open Go.RowKit
namespace F
open H K
/-- The reader, the block of the result, and all else as it was. -/
structure FdSt (b : Nat) (s : List UInt8) (j : Nat) (bad : Bool) (R : Nat) (r : Array Value) (T : TypeId) (w0 w : World) : Prop where
 rdr : IsRdF b s j bad w
 res : Blk R r T w
 but : But b w0 w
 hb : b < w0.heap.size
 hR : w0.heap.size ≤ R
section
variable {b : Nat} {s : List UInt8} {j j' : Nat} {bad bad' : Bool} {R : Nat} {r : Array Value} {T : TypeId} {w0 w w' : World}
theorem FdSt.step (h : FdSt b s j bad R r T w0 w) (hr : IsRdF b s j' bad' w') (hB : But b w w') : FdSt b s j' bad' R r T w0 w' :=
 ⟨hr, h.res.but hB (by have := h.hb; have := h.hR; omega), h.but.trans hB, h.hb, h.hR⟩
theorem FdSt.below (h : FdSt b s j bad R r T w0 w) (hB : Below w.heap.size w w') : FdSt b s j bad R r T w0 w' := h.step (h.rdr.below hB) (But.of hB)
theorem FdSt.alloc (h : FdSt b s j bad R r T w0 w) (o : Obj) : FdSt b s j bad R r T w0 (w.alloc o) := ⟨h.rdr.alloc o, h.res.alloc o, h.but.alloc o, h.hb, h.hR⟩
theorem FdSt.drewN (h : FdSt b s j bad R r T w0 w) (n : Nat) : FdSt b s j bad R r T w0 (w.drewN n) := ⟨h.rdr.drewN n, h.res, h.but.drewN n, h.hb, h.hR⟩
theorem FdSt.far (h : FdSt b s j bad R r T w0 w) {k : Nat} (hk : w0.heap.size ≤ k) (hkR : R ≠ k) (o : Nat) (v : Value) : FdSt b s j bad R r T w0 (w.setCell ⟨k, o, none⟩ v) :=
 ⟨h.rdr.far (by have := h.hb; omega) o v, h.res.far hkR o v, h.but.late hk o v, h.hb, h.hR⟩
theorem FdSt.set (h : FdSt b s j bad R r T w0 w) (o : Nat) (v : Value) : FdSt b s j bad R (r.setIfInBounds o v) T w0 (w.setCell ⟨R, o, none⟩ v) :=
 ⟨h.rdr.far (by have := h.hb; have := h.hR; omega) o v, h.res.set o v, h.but.late h.hR o v, h.hb, h.hR⟩
theorem FdSt.new (hr : IsRdF b s j bad w) (cs : Array Value) (T : TypeId) : FdSt b s j bad w.heap.size cs T w (w.alloc (.cells cs T)) :=
 ⟨hr.alloc _, Blk.new w cs T, (But.refl _ _).alloc _, lt_of_block hr, Nat.le_refl _⟩
theorem FdSt.six (h : FdSt b s j bad R r T w0 w) (v0 v1 v2 v3 v4 v5 : Value) :
  IsRdF b s j bad ((((((w.setCell ⟨R, 0, none⟩ v0).setCell ⟨R, 1, none⟩ v1).setCell ⟨R, 2, none⟩ v2).setCell ⟨R, 3, none⟩ v3).setCell ⟨R, 4, none⟩ v4).setCell ⟨R, 5, none⟩ v5) ∧
  But b w0 ((((((w.setCell ⟨R, 0, none⟩ v0).setCell ⟨R, 1, none⟩ v1).setCell ⟨R, 2, none⟩ v2).setCell ⟨R, 3, none⟩ v3).setCell ⟨R, 4, none⟩ v4).setCell ⟨R, 5, none⟩ v5) :=
 have h := ((((((h.set 0 v0).set 1 v1).set 2 v2).set 3 v3).set 4 v4).set 5 v5)
 ⟨h.rdr, h.but⟩
theorem FdSt.lt (h : FdSt b s j bad R r T w0 w) : b < w.heap.size := lt_of_block h.rdr
end
theorem FdSt.fail {b : Nat} {s : List UInt8} {i : Nat} {bad : Bool} {R : Nat} {r : Array Value} {T : TypeId} {w0 w : World} (h : FdSt b s i bad R r T w0 w) : FdSt b s i true R r T w0 (w.setCell ⟨b, 2, none⟩ (.bool true)) :=
 ⟨h.rdr.fail, h.res.far (by have := h.hb; have := h.hR; omega) 2 _, h.but.trans (But.set _ _ _), h.hb, h.hR⟩
theorem FdSt.farSix {b : Nat} {s : List UInt8} {j : Nat} {bad : Bool} {R : Nat} {r : Array Value} {T : TypeId} {w0 w : World} (h : FdSt b s j bad R r T w0 w) {k : Nat} (hk : w0.heap.size ≤ k) (hkR : R ≠ k) (v0 v1 v2 v3 v4 v5 : Value) :
  FdSt b s j bad R r T w0 ((((((w.setCell ⟨k, 0, none⟩ v0).setCell ⟨k, 1, none⟩ v1).setCell ⟨k, 2, none⟩ v2).setCell ⟨k, 3, none⟩ v3).setCell ⟨k, 4, none⟩ v4).setCell ⟨k, 5, none⟩ v5) :=
 (((((h.far hk hkR 0 v0).far hk hkR 1 v1).far hk hkR 2 v2).far hk hkR 3 v3).far hk hkR 4 v4).far hk hkR 5 v5
/-- take, whatever comes: a Bool. -/
theorem take_b (b : Nat) (s : List UInt8) (c : UInt8) (i : Nat) (bad : Bool) (w : World) (hs : s.length ≤ 1000000) (hi : i ≤ s.length) (hR : IsRdF b s i bad w) :
  Calls Tryz.prog 94 #[.pointer (some ⟨b, 0, none⟩), .int .u8 c.toNat] w fun e w' =>
   ∃ (B : Bool) (j : Nat), e = .returned (.bool B) ∧ IsRdF b s j bad w' ∧ But b w w' ∧ i ≤ j ∧ j ≤ s.length ∧ Hid ((B = true ∧ j = i + 1 ∧ s.drop i = c :: s.drop j) ∨ (B = false ∧ j = i ∧ ∀ r, s.drop i ≠ c :: r)) := by
 refine (take b s c i bad w hs hi hR).mono ?_
 rintro e w' (⟨rfl, hr, hb, hj, HT⟩ | ⟨rfl, hr, hb, HT⟩)
 ·exact ⟨true, i + 1, rfl, hr, hb, by omega, hj, Lib.hid (Or.inl ⟨rfl, rfl, HT.out⟩)⟩
 ·exact ⟨false, i, rfl, hr, hb, Nat.le_refl _, hi, Lib.hid (Or.inr ⟨rfl, rfl, HT.out⟩)⟩
def FTst (b : Nat) (s : List UInt8) (i : Nat) (bad : Bool) (o : Option (L.Tst × List UInt8)) (w : World) (e : Ending) (w' : World) : Prop :=
 ∃ (t : L.Tst) (j : Nat) (bad' : Bool), e = .returned (tval t (.slice none 0 0)) ∧ IsRdF b s j bad' w' ∧ But b w w' ∧ i ≤ j ∧ j ≤ s.length ∧ Hid ((bad = true → bad' = true) ∧ (bad = false → Got bad' o (t, s.drop j)))
/-- The operator, read byte by byte. -/
def OpAt (s : List UInt8) (j3 : Nat) (KK j4 : Nat) : Prop := (KK = 5 ∧ s.drop j3 = 126 :: s.drop j4) ∨ (KK = 6 ∧ s.drop j3 = 94 :: s.drop j4) ∨ (KK = 4 ∧ j4 = j3 ∧ (∀ r, s.drop j3 ≠ 126 :: r) ∧ ∀ r, s.drop j3 ≠ 94 :: r)
theorem op_yes {s : List UInt8} {j3 KK j4 j5 : Nat} (h : OpAt s j3 KK j4) (h5 : s.drop j4 = 61 :: s.drop j5) : L.op (s.drop j3) = some (KK, s.drop j5) := by
 rcases h with ⟨rfl, h⟩ | ⟨rfl, h⟩ | ⟨rfl, rfl, _, _⟩
 ·rw [h, h5]; simp [L.op, List.isPrefixOf]
 ·rw [h, h5]; simp [L.op, List.isPrefixOf]
 ·rw [h5]; simp [L.op, List.isPrefixOf]
theorem pre_one {c : UInt8} {r : List UInt8} (h : ∀ u, r ≠ c :: u) : ([c] : List UInt8).isPrefixOf r = false := by
 cases hp : ([c] : List UInt8).isPrefixOf r with
 | false => rfl
 | true => obtain ⟨u, hu⟩ := prefix_one hp; exact absurd hu (h u)
theorem pre_two {c d : UInt8} {r : List UInt8} (h : ∀ u, r ≠ c :: d :: u) : ([c, d] : List UInt8).isPrefixOf r = false := by
 cases hp : ([c, d] : List UInt8).isPrefixOf r with
 | false => rfl
 | true =>
  obtain ⟨u, hu⟩ := List.isPrefixOf_iff_prefix.1 hp
  exact absurd hu.symm (h u)
theorem op_not {s : List UInt8} {j3 KK j4 : Nat} (h : OpAt s j3 KK j4) (h5 : ∀ r, s.drop j4 ≠ 61 :: r) : L.op (s.drop j3) = none := by
 have key : (∀ u, s.drop j3 ≠ 61 :: u) ∧ (∀ u, s.drop j3 ≠ 126 :: 61 :: u) ∧ (∀ u, s.drop j3 ≠ 94 :: 61 :: u) := by
  rcases h with ⟨rfl, h⟩ | ⟨rfl, h⟩ | ⟨rfl, rfl, ha, hb⟩
  ·rw [h]
   refine ⟨fun u hu => absurd (List.cons.inj hu).1 (by decide), fun u hu => h5 u (List.cons.inj hu).2, fun u hu => absurd (List.cons.inj hu).1 (by decide)⟩
  ·rw [h]
   refine ⟨fun u hu => absurd (List.cons.inj hu).1 (by decide), fun u hu => absurd (List.cons.inj hu).1 (by decide), fun u hu => h5 u (List.cons.inj hu).2⟩
  ·exact ⟨h5, fun u => ha _, fun u => hb _⟩
 unfold L.op
 rw [pre_one key.1, pre_two key.2.1, pre_two key.2.2]
 rfl
set_option maxHeartbeats 8000000 in
set_option maxRecDepth 100000 in
theorem attr (b : Nat) (s : List UInt8) (i : Nat) (bad : Bool) (w : World) (hs : s.length ≤ 1000000) (hi : i ≤ s.length) (hR : IsRdF b s i bad w) :
  Calls Tryz.prog 170 #[.pointer (some ⟨b, 0, none⟩)] w (FTst b s i bad (L.attr (s.drop i)) w) := by
 have HR := Lib.hid hR
 have hlb := lt_of_block hR
 clear hR
 go_enter Tryz.func170, Tryz.ntmps170
 go_wp2_with fail
 have st0 := FdSt.new HR.out tzero 150
 refine (space_any b s i bad _ hs hi st0.rdr).mono ?_
 rintro e w1 ⟨j1, rfl, hr1, hb1, h1, h1', HJ1⟩
 have ST1 := Lib.hid (st0.step hr1 hb1)
 clear st0 hr1 hb1
 go_wp2_with fail
 refine (ident b s j1 bad _ hs h1' ST1.out.rdr).mono ?_
 rintro e w2 ⟨t, j2, bad2, rfl, hr2, hb2, h2, h2', ht, HN⟩
 have ST2 := Lib.hid (ST1.out.step hr2 hb2)
 clear hr2 hb2 ST1
 go_wp2_with fail
 refine (lowerF t _ (by omega)).mono ?_
 rintro e w3 ⟨rfl, b3⟩
 have ST3 := Lib.hid (ST2.out.below b3)
 clear b3 ST2
 go_wp2_with fail
 have hA : w.heap.size < w3.heap.size := ST3.out.res.lt
 have hbA : b ≠ w3.heap.size := by omega
 refine (space_any b s j2 bad2 _ hs h2' (ST3.out.alloc _).rdr).mono ?_
 rintro e w4 ⟨j3, rfl, hr4, hb4, h3, h3', HJ3⟩
 have ST4 := Lib.hid ((ST3.out.alloc _).step hr4 hb4)
 have X4 : Hid (Blk w3.heap.size (tcells ⟨3, L.lower t, [], 0, 0⟩ (.slice none 0 0)) 150 w4) := Lib.hid ((Blk.new w3 _ _).but hb4 hbA.symm)
 clear hr4 hb4 ST3
 generalize w3.heap.size = A at *
 generalize hRR : w.heap.size = R at *
 have hRA : R ≠ A := by omega
 have hAR : A ≠ R := by omega
 have hAb : A ≠ b := by omega
 have hRb : R ≠ b := by omega
 have hbR : b ≠ R := by omega
 go_wp2_with fail
 refine (take_b b s 93 j3 bad2 _ hs h3' ST4.out.rdr).mono ?_
 rintro e w5 ⟨B, j4, rfl, hr5, hb5, h4, h4', HT⟩
 have ST5 := Lib.hid (ST4.out.step hr5 hb5)
 have X5 := Lib.hid (X4.out.but hb5 hAb)
 clear hr5 hb5 ST4 X4
 cases B with
 | true =>
  have hT : j4 = j3 + 1 ∧ s.drop j3 = 93 :: s.drop j4 := by
   rcases HT.out with ⟨_, h1, h2⟩ | ⟨h, _⟩
   ·exact ⟨h1, h2⟩
   ·cases h
  have HG : Hid (bad = false → Got bad2 (L.attr (s.drop i)) ((⟨3, L.lower t, [], 0, 0⟩ : L.Tst), s.drop j4)) := Lib.hid (fun h => by
   rcases HN.out.2 h with ⟨rfl, h⟩ | ⟨rfl, h⟩
   ·exact Got.no (attr_no (HJ1.out ▸ h))
   ·have hop : L.op (L.space (s.drop j2)) = none := by rw [← HJ3.out, hT.2]; simp [L.op, List.isPrefixOf]
    rw [attr_yes (HJ1.out ▸ h), attrEnd_no hop, ← HJ3.out, hT.2]
    refine Got.yes ?_
    simp [L.need, List.isPrefixOf])
  obtain ⟨hcx, hfx⟩ := cells_of X5.out
  obtain ⟨hcr, hfr⟩ := cells_of ST5.out.res
  unfold tcells at hcx hfx
  unfold tzero at hcr hfr
  have hlr := ST5.out.res.lt
  have hlx := X5.out.lt
  have HBd := Lib.hid HN.out.1
  clear hT HT HN HJ1 HJ3
  go_wp2_with fail
  refine bodyPost_ret (v := tval ⟨3, L.lower t, [], 0, 0⟩ (.slice none 0 0)) (by simp [results, Tryz.results170, go_sem, tval, tcells, hcr, hRA, hAR]) rfl ⟨_, j4, bad2, rfl, ?_, ?_, by omega, h4', Lib.hid ⟨HBd.out, HG.out⟩⟩
  ·exact (ST5.out.six _ _ _ _ _ _).1
  ·exact (ST5.out.six _ _ _ _ _ _).2
 | false =>
  have hT : j4 = j3 ∧ ∀ r, s.drop j3 ≠ 93 :: r := by
   rcases HT.out with ⟨h, _⟩ | ⟨_, h1, h2⟩
   ·cases h
   ·exact ⟨h1, h2⟩
  obtain ⟨hj43, hT3⟩ := hT
  subst hj43
  have HT3 := Lib.hid hT3
  clear HT hT3
  obtain ⟨hcx, hfx⟩ := cells_of X5.out
  unfold tcells at hcx hfx
  have hlx := X5.out.lt
  have ST6 := Lib.hid (ST5.out.far (k := A) (by omega) (by omega) 0 (.int .i64 4))
  have X6 : Hid (Blk A (tcells ⟨4, L.lower t, [], 0, 0⟩ (.slice none 0 0)) 150 (w5.setCell ⟨A, 0, none⟩ (.int .i64 4))) := Lib.hid (X5.out.set 0 (.int .i64 4))
  clear ST5 X5
  go_wp2_with fail
  clear hcx hfx hlx
  refine (take_b b s 126 j4 bad2 _ hs h4' ST6.out.rdr).mono ?_
  rintro e w7 ⟨B1, j5, rfl, hr7, hb7, h5, h5', HT5⟩
  have ST7 := Lib.hid (ST6.out.step hr7 hb7)
  have X7 := Lib.hid (X6.out.but hb7 hAb)
  clear hr7 hb7 ST6 X6
  go_upto_if 17 with fail
  go_cut [] (fun wx => ∃ KK j6 : Nat, FdSt b s j6 bad2 R tzero 150 w wx ∧ Blk A (tcells ⟨KK, L.lower t, [], 0, 0⟩ (.slice none 0 0)) 150 wx ∧ j4 ≤ j6 ∧ j6 ≤ s.length ∧ OpAt s j4 KK j6)
  case first =>
   cases B1 with
   | true =>
    have hT : j5 = j4 + 1 ∧ s.drop j4 = 126 :: s.drop j5 := by
     rcases HT5.out with ⟨_, h1, h2⟩ | ⟨h, _⟩
     ·exact ⟨h1, h2⟩
     ·cases h
    have HO := Lib.hid (show OpAt s j4 5 j5 from Or.inl ⟨rfl, hT.2⟩)
    obtain ⟨hcx, hfx⟩ := cells_of X7.out
    unfold tcells at hcx hfx
    have hlx := X7.out.lt
    clear hT HT5
    go_wp2_with fail
    go_meet
    exact ⟨5, j5, ST7.out.far (k := A) (by omega) (by omega) 0 (.int .i64 5), X7.out.set 0 (.int .i64 5), h5, h5', HO.out⟩
   | false =>
    have hT : j5 = j4 ∧ ∀ r, s.drop j4 ≠ 126 :: r := by
     rcases HT5.out with ⟨h, _⟩ | ⟨_, h1, h2⟩
     ·cases h
     ·exact ⟨h1, h2⟩
    obtain ⟨hj54, hT126⟩ := hT
    subst hj54
    have H126 := Lib.hid hT126
    clear HT5 hT126
    go_wp2_with fail
    refine (take_b b s 94 j5 bad2 _ hs h5' ST7.out.rdr).mono ?_
    rintro e w8 ⟨B2, j6, rfl, hr8, hb8, h6, h6', HT6⟩
    have ST8 := Lib.hid (ST7.out.step hr8 hb8)
    have X8 := Lib.hid (X7.out.but hb8 hAb)
    obtain ⟨hcx, hfx⟩ := cells_of X8.out
    unfold tcells at hcx hfx
    have hlx := X8.out.lt
    clear hr8 hb8
    cases B2 with
    | true =>
     have hT : j6 = j5 + 1 ∧ s.drop j5 = 94 :: s.drop j6 := by
      rcases HT6.out with ⟨_, h1, h2⟩ | ⟨h, _⟩
      ·exact ⟨h1, h2⟩
      ·cases h
     have HO := Lib.hid (show OpAt s j5 6 j6 from Or.inr (Or.inl ⟨rfl, hT.2⟩))
     clear hT HT6
     go_wp2_with fail
     go_meet
     exact ⟨6, j6, ST8.out.far (k := A) (by omega) (by omega) 0 (.int .i64 6), X8.out.set 0 (.int .i64 6), h6, h6', HO.out⟩
    | false =>
     have hT : j6 = j5 ∧ ∀ r, s.drop j5 ≠ 94 :: r := by
      rcases HT6.out with ⟨h, _⟩ | ⟨_, h1, h2⟩
      ·cases h
      ·exact ⟨h1, h2⟩
     have HO := Lib.hid (show OpAt s j5 4 j6 from Or.inr (Or.inr ⟨rfl, hT.1, H126.out, hT.2⟩))
     clear hT HT6
     go_wp2_with fail
     go_meet
     exact ⟨4, j6, ST8.out, X8.out, h6, h6', HO.out⟩
  case rest =>
   obtain ⟨KK, j6, hst, hx, h6, h6', hop⟩ := hcut
   have ST8 := Lib.hid hst
   have X8 := Lib.hid hx
   have HOp := Lib.hid hop
   clear hst hx hop ST7 X7 HT5
   go_wp2_with fail
   refine (take_b b s 61 j6 bad2 _ hs h6' ST8.out.rdr).mono ?_
   rintro e w9 ⟨B3, j7, rfl, hr9, hb9, h7, h7', HT7⟩
   have ST9 := Lib.hid (ST8.out.step hr9 hb9)
   have X9 := Lib.hid (X8.out.but hb9 hAb)
   clear hr9 hb9 ST8 X8
   go_upto_if 24 with fail
   go_cut [] (fun wx => ∃ bad3 : Bool, FdSt b s j7 bad3 R tzero 150 w wx ∧ Blk A (tcells ⟨KK, L.lower t, [], 0, 0⟩ (.slice none 0 0)) 150 wx ∧ (bad2 = true → bad3 = true) ∧ (bad2 = false → Got bad3 (L.op (s.drop j4)) (KK, s.drop j7)))
   case first =>
    cases B3 with
    | true =>
     have HO : Hid (L.op (s.drop j4) = some (KK, s.drop j7)) := Lib.hid (by
      rcases HT7.out with ⟨_, _, h2⟩ | ⟨h, _⟩
      ·exact op_yes HOp.out h2
      ·cases h)
     clear HT7
     go_wp2_with fail
     go_meet
     exact ⟨bad2, ST9.out, X9.out, fun h => h, fun h => by rw [h]; exact Got.yes HO.out⟩
    | false =>
     have HO : Hid (L.op (s.drop j4) = none) := Lib.hid (by
      rcases HT7.out with ⟨h, _⟩ | ⟨_, _, h2⟩
      ·cases h
      ·exact op_not HOp.out h2)
     obtain ⟨hcb, hfb⟩ := cells_of ST9.out.rdr
     have hlb9 := ST9.out.lt
     clear HT7
     go_wp2_with fail
     go_meet
     exact ⟨true, ST9.out.fail, X9.out.far hAb 2 _, fun _ => rfl, fun _ => Got.no HO.out⟩
   case rest =>
    obtain ⟨bad3, hst, hx, hbd3, hop3⟩ := hcut
    have STa := Lib.hid hst
    have Xa := Lib.hid hx
    have HBd3 := Lib.hid hbd3
    have HOp3 := Lib.hid hop3
    clear hst hx hbd3 hop3 ST9 X9 HT7 HOp
    go_wp2_with fail
    refine (space_any b s j7 bad3 _ hs h7' STa.out.rdr).mono ?_
    rintro e wb ⟨j8, rfl, hrb, hbb, h8, h8', HJ8⟩
    have STb := Lib.hid (STa.out.step hrb hbb)
    have Xb := Lib.hid (Xa.out.but hbb hAb)
    clear hrb hbb STa Xa
    go_wp2_with fail
    refine (value b s j8 bad3 _ hs h8' STb.out.rdr).mono ?_
    rintro e wc' ⟨v, j9, bad9, rfl, hrc, hbc, h9, h9', hv, HV⟩
    have STc := Lib.hid (STb.out.step hrc hbc)
    have Xc := Lib.hid (Xb.out.but hbc hAb)
    obtain ⟨hcx, hfx⟩ := cells_of Xc.out
    unfold tcells at hcx hfx
    have hlx := Xc.out.lt
    have STd := Lib.hid (STc.out.far (k := A) (by omega) (by omega) 2 (.string ⟨v.toArray⟩))
    have Xd : Hid (Blk A (tcells ⟨KK, L.lower t, v, 0, 0⟩ (.slice none 0 0)) 150 (wc'.setCell ⟨A, 2, none⟩ (.string ⟨v.toArray⟩))) := Lib.hid (Xc.out.set 2 (.string ⟨v.toArray⟩))
    clear hrc hbc STb Xb STc Xc
    go_wp2_with fail
    clear hcx hfx hlx
    refine (space_any b s j9 bad9 _ hs h9' STd.out.rdr).mono ?_
    rintro e we ⟨ja, rfl, hre, hbe, ha, ha', HJa⟩
    have STe := Lib.hid (STd.out.step hre hbe)
    have Xe := Lib.hid (Xd.out.but hbe hAb)
    clear hre hbe STd Xd
    go_wp2_with fail
    refine (take_b b s 93 ja bad9 _ hs ha' STe.out.rdr).mono ?_
    rintro e wf ⟨B4, jb, rfl, hrf, hbf, hb, hb', HTb⟩
    have STf := Lib.hid (STe.out.step hrf hbf)
    have Xf := Lib.hid (Xe.out.but hbf hAb)
    obtain ⟨hcx, hfx⟩ := cells_of Xf.out
    obtain ⟨hcr, hfr⟩ := cells_of STf.out.res
    obtain ⟨hcb, hfb⟩ := cells_of STf.out.rdr
    unfold tcells at hcx hfx
    unfold tzero at hcr hfr
    have hlx := Xf.out.lt
    have hlr := STf.out.res.lt
    have hlbf := STf.out.lt
    have HFin : Hid (∀ bb : Bool, ((bad9 = true → bb = true) ∧ (bad9 = false → Got bb (L.need [93] (s.drop ja)) (s.drop jb))) → (bad = true → bb = true) ∧ (bad = false → Got bb (L.attr (s.drop i)) ((⟨KK, L.lower t, v, 0, 0⟩ : L.Tst), s.drop jb))) := Lib.hid (fun bb hd => by
     refine ⟨fun h => hd.1 (HV.out.1 (HBd3.out (HN.out.1 h))), fun h => ?_⟩
     rcases HN.out.2 h with ⟨rfl, h⟩ | ⟨rfl, h⟩
     ·rw [hd.1 (HV.out.1 (HBd3.out rfl))]; exact Got.no (attr_no (HJ1.out ▸ h))
     ·rw [attr_yes (HJ1.out ▸ h)]
      rcases HOp3.out rfl with ⟨rfl, ho⟩ | ⟨rfl, ho⟩
      ·rw [hd.1 (HV.out.1 rfl)]
       have hop : L.op (L.space (s.drop j2)) = none := by rw [← HJ3.out]; exact ho
       rw [attrEnd_no hop, ← HJ3.out]
       refine Got.no ?_
       have hnd : L.need [93] (s.drop j4) = none := need_none (pre_one HT3.out)
       rw [hnd]
      ·rw [attrEnd_yes (HJ3.out ▸ ho)]
       exact attrRest_got (HJ8.out ▸ HV.out.2 rfl) HJa.out hd)
    clear hrf hbf STe Xe HN HV HOp3 HBd3 HJ1 HJ3 HJ8 HJa HT3
    cases B4 with
    | true =>
     have HF := Lib.hid (HFin.out bad9 ⟨fun h => h, fun h => by
      rw [h]
      rcases HTb.out with ⟨_, _, h2⟩ | ⟨h', _⟩
      ·refine Got.yes ?_
       rw [h2]; simp [L.need, List.isPrefixOf]
      ·cases h'⟩)
     clear HFin HTb
     go_wp2_with fail
     refine bodyPost_ret (v := tval ⟨KK, L.lower t, v, 0, 0⟩ (.slice none 0 0)) (by simp [results, Tryz.results170, go_sem, tval, tcells, hcr, hRA, hAR]) rfl ⟨_, jb, bad9, rfl, ?_, ?_, by omega, hb', HF⟩
     ·exact (STf.out.six _ _ _ _ _ _).1
     ·exact (STf.out.six _ _ _ _ _ _).2
    | false =>
     have HF := Lib.hid (HFin.out true ⟨fun _ => rfl, fun h => by
      rcases HTb.out with ⟨h', _⟩ | ⟨_, _, h2⟩
      ·cases h'
      ·exact Got.no (need_none (pre_one h2))⟩)
     clear HFin HTb
     go_wp2_with fail
     refine bodyPost_ret (v := tval ⟨KK, L.lower t, v, 0, 0⟩ (.slice none 0 0)) (by simp [results, Tryz.results170, go_sem, tval, tcells, hcr, hRA, hAR, hRb, hbR]) rfl ⟨_, jb, true, rfl, ?_, ?_, by omega, hb', ⟨fun _ => rfl, HF.out.2⟩⟩
     ·exact (STf.out.fail.six _ _ _ _ _ _).1
     ·exact (STf.out.fail.six _ _ _ _ _ _).2
end F
end Go.Proofs.YtafkeolpadfjfaaGreatDoor
namespace Go.Proofs.YtafkeolpadfjfaaGreatDoor
open Go.RowKit
namespace F
open H K
def FTest (b : Nat) (s : List UInt8) (i : Nat) (inner bad : Bool) (o : Option (L.Test × List UInt8)) (w : World) (e : Ending) (w' : World) : Prop :=
 ∃ (t : L.Test) (nv : Value) (j : Nat) (bad' : Bool), e = .returned (tval t.t nv) ∧ Hid (NotsAt (w.heap.size ≤ ·) w' nv t.nots) ∧ IsRdF b s j bad' w' ∧ But b w w' ∧ i ≤ j ∧ j ≤ s.length ∧ Hid (inner = true → t.nots = []) ∧ Hid ((bad = true → bad' = true) ∧ (bad = false → Got bad' o (t, s.drop j)))
/-- A part's value: its type, and the tests behind v. -/
def FPart (b : Nat) (s : List UInt8) (i : Nat) (inner bad : Bool) (o : Option ((List UInt8 × List L.Test) × List UInt8)) (w : World) (e : Ending) (w' : World) : Prop :=
 ∃ (ty : List UInt8) (v : Value) (ts : List L.Test) (j : Nat) (bad' : Bool), e = .returned (.agg #[.int .i64 0, .string ⟨ty.toArray⟩, v]) ∧ Hid (TestsAt (w.heap.size ≤ ·) w' v ts) ∧ IsRdF b s j bad' w' ∧ But b w w' ∧ i ≤ j ∧ j ≤ s.length ∧ ty.length ≤ s.length ∧ Hid (ts.length ≤ j - i) ∧ Hid (inner = true → ∀ t ∈ ts, t.nots = []) ∧ Hid ((bad = true → bad' = true) ∧ (bad = false → Got bad' o ((ty, ts), s.drop j)))
theorem drop_need {c : UInt8} {s : List UInt8} {i j : Nat} (h : s.drop i = c :: s.drop j) : L.need [c] (s.drop i) = some (s.drop j) := by
 rw [h]; simp [L.need, List.isPrefixOf]
end F
end Go.Proofs.YtafkeolpadfjfaaGreatDoor
namespace Go.Proofs.YtafkeolpadfjfaaGreatDoor
open Go.RowKit
namespace H
section
variable {α : Type} {c : α → Value → List Value} {I : (Nat → Prop) → World → Value → α → Prop} {S S' : Nat → Prop} {w w' : World} {v : Value} {l : List α} {base size : Nat} {e : TypeId}
/-- The blocks that are taken so far. -/
theorem OwnIn.thin (hI : Keeps I) (h : OwnIn c I S base e size w v l) (hS : ∀ g, S g → g < w.heap.size → S' g) : OwnIn c I S' base e size w v l := by
 obtain ⟨ps, h1, h2, h3, h4, h5⟩ := h
 exact ⟨ps, h1, h2, fun p hp => hI (h3 p hp) ⟨Nat.le_refl _, fun g hg hlt => ⟨⟨hS g hg.1 hlt, hg.2⟩, rfl⟩⟩, h4, fun g hg => hS g (h5 g hg) (h2.lt g hg).2⟩
end
end H
namespace F
open H K
/-- The reader, the block of the result, the part that is built, and its tests (their blocks are those of S). -/
structure FPSt (b : Nat) (s : List UInt8) (j : Nat) (bad : Bool) (R P : Nat) (ty : List UInt8) (v : Value) (ts : List L.Test) (S : Nat → Prop) (w0 w : World) : Prop where
 st : FdSt b s j bad R pzero 105 w0 w
 p : Blk P #[.int .i64 0, .string ⟨ty.toArray⟩, v] 105 w
 row : OwnIn cTest ITest S (P + 1) 150 6 w v ts
 hP : R < P
 hS : ∀ g, S g → P + 1 ≤ g
theorem infoTest : (Tryz.prog.info? 150).map (fun i => (i.zero, i.size, i.bytes)) = some (some (.agg tzero), 6, 80) := by kernel_rfl
theorem FPSt.start {b : Nat} {s : List UInt8} {i : Nat} {bad : Bool} {w : World} (hR : IsRdF b s i bad w) :
  FPSt b s i bad w.heap.size (w.heap.size + 1) [] (.slice none 0 0) [] (w.heap.size + 1 + 1 ≤ ·) w ((w.alloc (.cells pzero 105)).alloc (.cells pzero 105)) := by
 refine ⟨(FdSt.new hR pzero _).alloc _, ?_, OwnIn.nil, Nat.lt_succ_self _, fun g h => h⟩
 have := Blk.new (w.alloc (.cells pzero 105)) pzero 105
 have e : (w.alloc (.cells pzero 105)).heap.size = w.heap.size + 1 := by simp
 rw [e] at this
 exact this
section
variable {b : Nat} {s : List UInt8} {j j' : Nat} {bad bad' : Bool} {R P : Nat} {ty : List UInt8} {v : Value} {ts : List L.Test} {S S' : Nat → Prop} {w0 w w' : World}
theorem FPSt.hb (h : FPSt b s j bad R P ty v ts S w0 w) : b < R := by have := h.st.hb; have := h.st.hR; omega
theorem FPSt.step (h : FPSt b s j bad R P ty v ts S w0 w) (hr : IsRdF b s j' bad' w') (hB : But b w w') : FPSt b s j' bad' R P ty v ts S w0 w' :=
 have h1 := h.hb
 have h3 := h.hP
 ⟨h.st.step hr hB, h.p.but hB (by omega), h.row.keep keeps_test ⟨hB.size, fun g hg hlt => ⟨hg, hB.block g hlt (by have := h.hS g hg; omega)⟩⟩, h.hP, h.hS⟩
theorem FPSt.drewN (h : FPSt b s j bad R P ty v ts S w0 w) (n : Nat) : FPSt b s j bad R P ty v ts S w0 (w.drewN n) :=
 ⟨h.st.drewN n, h.p, h.row.keep keeps_test ⟨Nat.le_refl _, fun g hg _ => ⟨hg, rfl⟩⟩, h.hP, h.hS⟩
theorem FPSt.below (h : FPSt b s j bad R P ty v ts S w0 w) (hB : Below w.heap.size w w') : FPSt b s j bad R P ty v ts S w0 w' := h.step (h.st.rdr.below hB) (But.of hB)
theorem FPSt.alloc (h : FPSt b s j bad R P ty v ts S w0 w) (o : Obj) : FPSt b s j bad R P ty v ts S w0 (w.alloc o) :=
 ⟨h.st.alloc o, h.p.alloc o, h.row.keep keeps_test ((Kept.refl w).alloc o), h.hP, h.hS⟩
theorem FPSt.thin (h : FPSt b s j bad R P ty v ts S w0 w) (hS : ∀ g, S g → g < w.heap.size → S' g) (hS' : ∀ g, S' g → P + 1 ≤ g) : FPSt b s j bad R P ty v ts S' w0 w :=
 ⟨h.st, h.p, h.row.thin keeps_test hS, h.hP, hS'⟩
theorem FPSt.typed (h : FPSt b s j bad R P ty v ts S w0 w) (t : List UInt8) : FPSt b s j bad R P t v ts S w0 (w.setCell ⟨P, 1, none⟩ (.string ⟨t.toArray⟩)) :=
 have h1 := h.hb
 have h2 := h.st.hR
 have h3 := h.hP
 ⟨h.st.far (by omega) (by omega) 1 _, H.Blk.set h.p 1 _, h.row.keep keeps_test ((Kept.refl w).set (fun hk => by have := h.hS _ hk; omega) 1 _), h.hP, h.hS⟩
theorem FPSt.fail_ (h : FPSt b s j bad R P ty v ts S w0 w) {B : Bool} : FPSt b s j B R P ty v ts S w0 (w.setCell ⟨b, 2, none⟩ (.bool B)) :=
 have h1 := h.hb
 have h3 := h.hP
 ⟨⟨block_set (o := 2) h.st.rdr, h.st.res.far (by omega) 2 _, h.st.but.trans (But.set _ _ _), h.st.hb, h.st.hR⟩, h.p.far (by omega) 2 _, h.row.keep keeps_test ((Kept.refl w).set (fun hk => by have := h.hS _ hk; omega) 2 _), h.hP, h.hS⟩
/-- A block of the round's own. -/
theorem FPSt.six (h : FPSt b s j bad R P ty v ts S w0 w) {k : Nat} (hk : P < k) (hS : ¬ S k) (v0 v1 v2 v3 v4 v5 : Value) :
  FPSt b s j bad R P ty v ts S w0 ((((((w.setCell ⟨k, 0, none⟩ v0).setCell ⟨k, 1, none⟩ v1).setCell ⟨k, 2, none⟩ v2).setCell ⟨k, 3, none⟩ v3).setCell ⟨k, 4, none⟩ v4).setCell ⟨k, 5, none⟩ v5) :=
 have h1 := h.hb
 have h2 := h.st.hR
 have h3 := h.hP
 ⟨h.st.farSix (by omega) (by omega) v0 v1 v2 v3 v4 v5, (((((h.p.far (by omega) 0 v0).far (by omega) 1 v1).far (by omega) 2 v2).far (by omega) 3 v3).far (by omega) 4 v4).far (by omega) 5 v5,
  h.row.keep keeps_test ((Kept.refl w).six hS v0 v1 v2 v3 v4 v5), h.hP, h.hS⟩
/-- The fields of the part into the result. -/
theorem FPSt.three (h : FPSt b s j bad R P ty v ts S w0 w) (v0 v1 v2 : Value) :
  IsRdF b s j bad (((w.setCell ⟨R, 0, none⟩ v0).setCell ⟨R, 1, none⟩ v1).setCell ⟨R, 2, none⟩ v2) ∧ But b w0 (((w.setCell ⟨R, 0, none⟩ v0).setCell ⟨R, 1, none⟩ v1).setCell ⟨R, 2, none⟩ v2) ∧
  TestsAt (w0.heap.size ≤ ·) (((w.setCell ⟨R, 0, none⟩ v0).setCell ⟨R, 1, none⟩ v1).setCell ⟨R, 2, none⟩ v2) v ts := by
 have h1 := ((h.st.set 0 v0).set 1 v1).set 2 v2
 have h2 := h.st.hR
 have h3 := h.hP
 refine ⟨h1.rdr, h1.but, ?_⟩
 have hn : ¬ S R := fun hk => by have := h.hS _ hk; omega
 exact keeps_tests (ListAt.keep keeps_test (OwnIn.list keeps_test h.row) ((((Kept.refl w).set (k := R) hn 0 v0).set hn 1 v1).set hn 2 v2)) (Kept.wide (fun g hg => by have := h.hS g hg; show w0.heap.size ≤ g; omega))
theorem FPSt.fresh (h : FPSt b s j bad R P ty v ts S w0 w) {g : Nat} (hg : w.heap.size ≤ g) : P + 1 ≤ g ∧ v.ownBlock ≠ some g := by
 refine ⟨by have := h.p.lt; omega, fun he => ?_⟩
 have := (h.row.lt he).2.2
 omega
/-- One more test, behind the append. -/
theorem FPSt.app (h : FPSt b s j bad R P ty v ts S w0 w) {w5 : World} {g cap : Nat} {t : L.Test} {nv : Value} {qs : List (L.Test × Value)}
  (hqs : qs.map (·.1) = ts) (hI : ∀ q ∈ qs, ITest (fun k => S k ∧ v.ownBlock ≠ some k) w q.2 q.1)
  (hown : w5.ownsRow (P + 1) 150 6 (.slice (some ⟨g, 0, none⟩) (ts.length + 1) cap) (ts.length + 1) ((qs.flatMap fun p => cTest p.1 p.2) ++ cTest t nv))
  (hgrow : w.grownBy w5 v.ownBlock) (hat : v.ownBlock = some g ∨ g = w.heap.size) (hnew : S w.heap.size) (hx : NotsAt (fun k => S k ∧ v.ownBlock ≠ some k) w nv t.nots) :
  FPSt b s j bad R P ty (.slice (some ⟨g, 0, none⟩) (ts.length + 1) cap) (ts ++ [t]) S w0 (w5.setCell ⟨P, 2, none⟩ (.slice (some ⟨g, 0, none⟩) (ts.length + 1) cap)) := by
 have hv : ∀ k, v.ownBlock = some k → P + 1 ≤ k := fun k hk => h.hS _ (h.row.lt hk).1
 have hb := h.hb
 have hb0 := h.st.hb
 have hR := h.st.hR
 have hP := h.hP
 have e1 : ∀ k, k < w.heap.size → k < P + 1 → w5.heap[k]? = w.heap[k]? := fun k h1 h2 =>
  hgrow.block k h1 (fun he => by have := hv k he.symm; omega)
 have r5 : IsRdF b s j bad w5 := (e1 b h.st.lt (by omega)).trans h.st.rdr
 have p5 : Blk P #[.int .i64 0, .string ⟨ty.toArray⟩, v] 105 w5 := (e1 P h.p.lt (by omega)).trans h.p
 have R5 : Blk R pzero 105 w5 := (e1 R h.st.res.lt (by omega)).trans h.st.res
 have b5 : But b w0 w5 := ⟨hgrow.os.trans h.st.but.os, hgrow.tape.trans h.st.but.tape, hgrow.output.trans h.st.but.output, by have := hgrow.size; have := h.st.but.size; omega, fun k hk hne =>
  (e1 k (by have := h.st.but.size; omega) (by omega)).trans (h.st.but.block k hk hne)⟩
 have s5 : FdSt b s j bad R pzero 105 w0 w5 := ⟨r5, R5, b5, h.st.hb, h.st.hR⟩
 have hn : ¬ S P := fun hk => by have := h.hS _ hk; omega
 refine ⟨s5.far (by omega) (by omega) 2 _, H.Blk.set p5 2 _, OwnIn.keep keeps_test (w := w5) ?_ ((Kept.refl w5).set hn 2 _), hP, h.hS⟩
 refine OwnIn.append (I := ITest) (c := cTest) (x := t) (vx := nv) keeps_test (w := w) (v := v) hqs hown hI hgrow ?_ hx
 rcases hat with h1 | h1
 ·exact Or.inl ⟨h1, (h.row.lt h1).1⟩
 ·exact Or.inr ⟨by omega, by rw [h1]; exact hnew⟩
theorem FPSt.p5 (h : FPSt b s j bad R P ty v ts S w0 w) {w5 : World} (hgrow : w.grownBy w5 v.ownBlock) : Blk P #[.int .i64 0, .string ⟨ty.toArray⟩, v] 105 w5 :=
 (hgrow.block P h.p.lt (fun he => by have := h.hS _ (h.row.lt he.symm).1; omega)).trans h.p
end
theorem begins_star (r : List UInt8) : L.begins (42 :: r) = false := by
 cases r with
 | nil => rfl
 | cons d u => rfl
theorem ident_begins {s : List UInt8} (h : L.begins s = true) : ∃ n r, L.ident s = some (n, r) := ⟨_, _, by unfold L.ident; rw [h]; rfl⟩
theorem ident_no {s : List UInt8} (h : L.begins s = false) : L.ident s = none := by unfold L.ident; rw [h]; rfl
/-- A name at the head. -/
theorem head_name {s t : List UInt8} {i j : Nat} (hb : L.begins (s.drop i) = true) (h : L.ident (s.drop i) = some (t, s.drop j)) : HeadOk s i (L.lower t) j true := by
 have hn : ∀ r, s.drop i ≠ 42 :: r := fun r hr => by rw [hr, begins_star] at hb; cases hb
 refine ⟨L.headOf_name hn h, Or.inl ⟨rfl, ?_⟩⟩
 have hid0 : L.ident (s.drop i) = some ((s.drop i).takeWhile L.inName, (s.drop i).dropWhile L.inName) := by unfold L.ident; rw [hb]; rfl
 have hlt : (s.drop j).length < (s.drop i).length := by
  rw [hid0] at h
  obtain ⟨h1, h2⟩ := Prod.mk.inj (Option.some.inj h)
  rw [← h2, ← drop_tw, List.length_drop]
  cases hd : s.drop i with
  | nil => rw [hd] at hb; exact absurd hb (by decide)
  | cons c r =>
   rw [hd] at hb
   have hin : L.inName c = true := begins_in hb
   rw [List.takeWhile_cons_of_pos hin]; simp; omega
 rw [List.length_drop, List.length_drop] at hlt
 omega
theorem head_star {s : List UInt8} {i j : Nat} (hj : j = i + 1) (h : s.drop i = 42 :: s.drop j) : HeadOk s i [] j true :=
 ⟨by rw [h]; rfl, Or.inl ⟨rfl, by omega⟩⟩
theorem head_none {s : List UInt8} {i : Nat} (hb : L.begins (s.drop i) = false) (h : ∀ r, s.drop i ≠ 42 :: r) : HeadOk s i [] i false :=
 ⟨L.headOf_none h (ident_no hb), Or.inr ⟨rfl, rfl⟩⟩
/-- What a part's reading comes to, behind its tests. -/
theorem part_gotF {np : Option (List UInt8 → Option ((List UInt8 × List L.Tst) × List UInt8))} {s : List UInt8} {i j0 j : Nat} {ty : List UInt8} {hb : Bool} {ts : List L.Test}
  (hh : HeadOk s i ty j0 hb) (hf : L.tests np ((s.drop j0).length + 1) (s.drop j0) = some (ts, s.drop j)) :
  Got (!(hb || !ts.isEmpty)) (L.part np (s.drop i)) ((ty, ts), s.drop j) := by
 rw [L.part_eq, hh.1, hf]
 dsimp only
 cases hq : (hb || !ts.isEmpty) with
 | true => exact Got.yes rfl
 | false => exact Got.no rfl
/-- What a round has read of a part. -/
def FPartRel (b : Nat) (s : List UInt8) (i j0 : Nat) (inner bad : Bool) (R P : Nat) (ty : List UInt8) (full : Option (List L.Test × List UInt8)) (hb : Bool) (w wr : World) (j : Nat) (bad2 : Bool) (q : Bool) : Prop :=
 ∃ v ts, FPSt b s j bad2 R P ty v ts (P + 1 ≤ ·) w wr ∧ ts.length ≤ j - i ∧ q = (hb || !ts.isEmpty) ∧ ((bad = true → bad2 = true) ∧ (bad = false → L.PInv (npOf inner) s j bad2 ts full)) ∧ (inner = true → ∀ t ∈ ts, t.nots = [])
/-- A round's test is read, and lies in the round's own block. -/
def FRound (b : Nat) (s : List UInt8) (j : Nat) (inner : Bool) (R P TB : Nat) (ty : List UInt8) (v : Value) (ts : List L.Test) (w wx : World) : Prop :=
 ∃ (t : L.Test) (nv : Value) (j2 : Nat) (bad2 : Bool), FPSt b s j2 bad2 R P ty v ts (fun k => P + 1 ≤ k ∧ k ≠ TB) w wx ∧ Blk TB (tcells t.t nv) 150 wx ∧
  NotsAt (fun k => (P + 1 ≤ k ∧ k ≠ TB) ∧ v.ownBlock ≠ some k) wx nv t.nots ∧ j < j2 ∧ j2 ≤ s.length ∧ (inner = true → t.nots = []) ∧ (∃ o, L.one (npOf inner) (s.drop j) = some o ∧ Got bad2 o (t, s.drop j2))
end F
end Go.Proofs.YtafkeolpadfjfaaGreatDoor
