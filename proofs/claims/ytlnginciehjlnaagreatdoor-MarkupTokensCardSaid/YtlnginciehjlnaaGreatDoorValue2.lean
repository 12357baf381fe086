/- What value, the reading of an attribute's value, comes to. -/
import Derived.Test.YtlnginciehjlnaaGreatDoorValue
import Derived.IntWalk
set_option linter.unusedVariables false
set_option linter.unusedSimpArgs false
namespace Go.Proofs.YtlnginciehjlnaaGreatDoor
open Go.RowKit
namespace K

def ValPost (b : Nat) (s : List UInt8) (i : Nat) (k n a c t : Value) (sl : Int) (w : World) (e : Ending) (w' : World) : Prop :=
  But b w w' ∧ match M.value (s.drop (i + 1)) with
    | none => ∃ v, e = .returned (.tuple #[.string ⟨v⟩, .bool false])
    | some (v, u) => e = .returned (.tuple #[.string ⟨v.toArray⟩, .bool true]) ∧ ∃ j, IsRd b s j k n a c t sl w' ∧ s.drop j = u ∧ j ≤ s.length ∧ i < j

theorem value_nil {r : List UInt8} (h : r.dropWhile T.sp = []) : M.value r = none := by simp [M.value, h]
theorem value_quote {r t : List UInt8} {c : UInt8} (h : r.dropWhile T.sp = c :: t) (hc : (c == 34 || c == 39) = true) : M.value r = match M.idx [c] t with | none => none | some i => some (t.take i, t.drop (i + 1)) := by
  unfold M.value; rw [h]; simp only [hc, if_true]
  cases M.idx [c] t <;> rfl
theorem value_bare {r t : List UInt8} {c : UInt8} (h : r.dropWhile T.sp = c :: t) (hc : (c == 34 || c == 39) = false) : M.value r = match (c :: t).dropWhile M.inValue with | [] => none | d :: u => some ((c :: t).takeWhile M.inValue, d :: u) := by
  unfold M.value; rw [h]; simp only [hc, Bool.false_eq_true, if_false]
  cases (c :: t).dropWhile M.inValue <;> rfl

theorem rd_sl {b : Nat} {s : List UInt8} {j : Nat} {k n a c t : Value} {x : Int} {w : World} (h : IsRd b s j k n a c t x w) (sl : Int) : IsRd b s j k n a c t sl (w.setCell ⟨b, 7, none⟩ (.int .i64 sl)) :=
  block_set (o := 7) (v := .int .i64 sl) h
theorem rd_at {b : Nat} {s : List UInt8} {j : Nat} {k n a c t : Value} {sl : Int} {w : World} (h : IsRd b s j k n a c t sl w) (m : Nat) (i : Int) (i' : Nat) (hi : i = i') : IsRd b s i' k n a c t sl ((w.drewN m).setCell ⟨b, 1, none⟩ (.int .i64 i)) := by
  subst hi
  exact block_set (w := w.drewN m) (o := 1) (v := .int .i64 (i' : Int)) h
theorem rd_at0 {b : Nat} {s : List UInt8} {j : Nat} {k n a c t : Value} {sl : Int} {w : World} (h : IsRd b s j k n a c t sl w) (i : Int) (i' : Nat) (hi : i = i') : IsRd b s i' k n a c t sl (w.setCell ⟨b, 1, none⟩ (.int .i64 i)) := by
  subst hi
  exact block_set (o := 1) (v := .int .i64 (i' : Int)) h

set_option maxHeartbeats 2000000 in
theorem value (b : Nat) (s : List UInt8) (i : Nat) (k n a c t : Value) (sl : Int) (w : World) (hs : s.length ≤ 800000) (hi : i < s.length) (hsl : -1 ≤ sl ∧ sl ≤ s.length) (hM : T.HasMax w) (hMb : 4 < b) (hR : IsRd b s i k n a c t sl w) :
    Calls Tryz.prog 121 #[.pointer (some ⟨b, 0, none⟩)] w (ValPost b s i k n a c t sl w) := by
  have hal := lt_of_block hR
  obtain ⟨hcl, hfr⟩ := cells_of hR
  have HM := Lib.hid hM
  have HR := Lib.hid hR
  clear hR hM
  go_enter Tryz.func121, Tryz.ntmps121
  go_wp2_with fail
  have hR1 := rd_at0 HR.out ((i : Int) + 1) (i + 1) (by omega)
  refine (overSp b s (i + 1) k n a c t sl _ hs (by omega) hsl hR1).mono ?_
  rintro e w1 ⟨j, rfl, hj1, hj2, HJ, hr1, hb1⟩
  clear hR1
  have hbut1 := (But.set w 1 (.int .i64 ((i : Int) + 1))).trans hb1
  clear hb1 hcl hfr
  obtain ⟨hcl, hfr⟩ := cells_of hr1
  have HR1 := Lib.hid hr1
  clear hr1
  by_cases hlt : j < s.length
  · obtain ⟨d, r, hd⟩ := drop_cons hlt
    have hdw : (s.drop (i + 1)).dropWhile T.sp = d :: r := by rw [← HJ.out.1, hd]
    have hix := at_drop hd (by rw [T.bytes_size]; exact hlt)
    have hdt : decide (j < s.length) = true := decide_eq_true hlt
    rw [hdt]
    have hd2 := drop_more hd
    clear hdt
    by_cases hq : d = 34 ∨ d = 39
    · have hqb : (d == 34 || d == 39) = true := by rcases hq with rfl | rfl <;> rfl
      have HV := Lib.hid (value_quote hdw hqb)
      have hx := T.slice_str s (j + 1) s.length (by omega) (Nat.le_refl _)
      rw [List.take_of_length_le (by rw [List.length_drop]; omega), hd2] at hx
      have hrl : r.length = s.length - (j + 1) := by rw [← hd2, List.length_drop]
      have HM1 := Lib.hid (max_below HM.out (hbut1.below hal) hMb)
      have QC := Lib.hid (fun W h => CutL r [d] W (by omega) h)
      clear hd hdw hqb HJ
      cases hidx : M.idx [d] r with
      | none =>
        rw [hidx] at QC HV
        dsimp only at QC HV
        clear hidx
        have he1 : Utf8.encode 34 = ⟨#[34]⟩ := by decide
        have he2 : Utf8.encode 39 = ⟨#[39]⟩ := by decide
        have g1 : IntKind.i64.wrap ((j : Int) + 1) = (j : Int) + 1 := IntWalk.i64_in _ (by omega)
        have g2 : 0 ≤ (j : Int) + 1 := by omega
        have g3 : ((j : Int) + 1).toNat = j + 1 := by omega
        rcases hq with rfl | rfl
        all_goals
          go_wp2_with fail
          go_quiet (fail)
          go_wp2_with fail
          go_quiet ((go_at_call 95; exact quietAdd (QC.out _ (HasMax_drewN HM1.out _))))
          clear g1 g2 g3
          go_wp2_with fail
          go_ret2
          refine ⟨hbut1.trans (((But.refl b w1).drewN _).trans (But.set _ 1 _)), ?_⟩
          rw [HV.out]
          exact ⟨_, rfl⟩
      | some m =>
        have hle := idx_le [d] r m hidx
        rw [hidx] at QC HV
        dsimp only at QC HV
        clear hidx
        have hml : (r.take m).length = m := by rw [List.length_take]; simp at hle; omega
        have hsd : s.drop (j + (m + 2)) = r.drop (m + 1) := by rw [← hd2, List.drop_drop]; congr 1; omega
        have HSD := Lib.hid hsd
        have hle2 : m + 1 ≤ r.length := hle
        clear hsd hd2 hle
        generalize r.take m = A at *
        generalize r.drop (m + 1) = B at *
        have he1 : Utf8.encode 34 = ⟨#[34]⟩ := by decide
        have he2 : Utf8.encode 39 = ⟨#[39]⟩ := by decide
        have g1 : IntKind.i64.wrap ((j : Int) + 1) = (j : Int) + 1 := IntWalk.i64_in _ (by omega)
        have g2 : 0 ≤ (j : Int) + 1 := by omega
        have g3 : ((j : Int) + 1).toNat = j + 1 := by omega
        rcases hq with rfl | rfl
        all_goals
          go_wp2_with fail
          go_quiet (fail)
          go_wp2_with fail
          go_quiet ((go_at_call 95; exact quietAdd (QC.out _ (HasMax_drewN HM1.out _))))
          clear g1 g2 g3
          go_wp2_with fail
          go_ret2
          refine ⟨hbut1.trans (((But.refl b w1).drewN _).trans (But.set _ 1 _)), ?_⟩
          rw [HV.out]
          exact ⟨rfl, _, rd_at HR1.out _ _ (j + (m + 2)) (by omega), HSD.out, by omega, by omega⟩
    · have hqb : (d == 34 || d == 39) = false := by
        have a1 : (d == 34) = false := by simpa using fun h => hq (Or.inl h)
        have a2 : (d == 39) = false := by simpa using fun h => hq (Or.inr h)
        rw [a1, a2]; rfl
      have f1 : ((d.toNat : Int) == 34) = false := byte_ne (n := 34) (fun h => hq (Or.inl h)) (by omega)
      have f2 : ((d.toNat : Int) == 39) = false := byte_ne (n := 39) (fun h => hq (Or.inr h)) (by omega)
      have HV := Lib.hid (value_bare hdw hqb)
      have hle := tw_le M.inValue (s.drop j)
      rw [List.length_drop] at hle
      have hx := T.slice_str s j (j + ((s.drop j).takeWhile M.inValue).length) (by omega) (by omega)
      rw [Nat.add_sub_cancel_left, ← take_while_more] at hx
      have hdr : s.drop (j + ((s.drop j).takeWhile M.inValue).length) = (s.drop j).dropWhile M.inValue := by rw [← List.drop_drop, drop_tw]
      rw [← hd] at HV
      clear hd hdw hqb HJ hq hd2
      go_wp2_with fail
      go_quiet (fail)
      go_wp2_with fail
      go_quiet (fail)
      go_wp2_with fail
      refine (overVal b s j k n a c t sl _ hs (by omega) hsl (by exact HR1.out)).mono ?_
      rintro e w2 ⟨rfl, hr2, hb2⟩
      have hbut2 := (hbut1.trans ((But.refl b w1).drewN _)).trans hb2
      clear hb2 hcl hfr hbut1
      obtain ⟨hcl, hfr⟩ := cells_of hr2
      have HR2 := Lib.hid (rd_sl hr2 sl)
      clear hr2
      generalize hJ : j + ((s.drop j).takeWhile M.inValue).length = J at *
      generalize (s.drop j).takeWhile M.inValue = A at *
      have hJl : J ≤ s.length := by omega
      have hjJ : j ≤ J := by omega
      clear hJ hle
      by_cases hJ2 : J < s.length
      · obtain ⟨u, U, hu⟩ := drop_cons hJ2
        have HV2 : Hid (M.value (s.drop (i + 1)) = some (A, u :: U)) := Lib.hid (by rw [HV.out, ← hdr, hu])
        have HU := Lib.hid hu
        have hdt : decide (J < s.length) = true := decide_eq_true hJ2
        rw [hdt]
        clear hdt HV hdr hu
        go_wp2_with fail
        go_quiet (fail)
        go_wp2_with fail
        go_ret2
        refine ⟨hbut2.trans ((But.set _ 7 _).trans ((But.refl b _).drewN _)), ?_⟩
        rw [HV2.out]
        exact ⟨rfl, J, HR2.out, HU.out, hJl, by omega⟩
      · have hnil : s.drop J = [] := List.drop_eq_nil_of_le (by omega)
        have HV2 : Hid (M.value (s.drop (i + 1)) = none) := Lib.hid (by rw [HV.out, ← hdr, hnil])
        have hdt : decide (J < s.length) = false := decide_eq_false hJ2
        rw [hdt]
        clear hdt HV hdr hnil
        go_wp2_with fail
        go_quiet (fail)
        go_wp2_with fail
        go_ret2
        refine ⟨hbut2.trans ((But.set _ 7 _).trans ((But.refl b _).drewN _)), ?_⟩
        rw [HV2.out]
        exact ⟨_, rfl⟩
  · have hnil : s.drop j = [] := List.drop_eq_nil_of_le (by omega)
    have HV2 : Hid (M.value (s.drop (i + 1)) = none) := Lib.hid (value_nil (by rw [← HJ.out.1, hnil]))
    have hdt : decide (j < s.length) = false := decide_eq_false hlt
    rw [hdt]
    clear hdt hnil HJ
    go_wp2_with fail
    go_ret2
    refine ⟨hbut1, ?_⟩
    rw [HV2.out]
    exact ⟨_, rfl⟩

end K
end Go.Proofs.YtlnginciehjlnaaGreatDoor
